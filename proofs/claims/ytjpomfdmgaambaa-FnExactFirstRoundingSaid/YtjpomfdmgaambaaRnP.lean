/- The network of roundings: what it holds, and its state while it is made. No walk here. -/
import Derived.Test.YtjpomfdmgaambaaMarg
import Derived.Test.YtjpomfdmgaambaaTr
import Derived.Test.YtjpomfdmgaambaaFill0
import Derived.Test.YtjpomfdmgaambaaMakes
namespace Go.Proofs.Ytjpomfdmgaambaa
open Go.RowKit

def dnV (base v : Int) : Int := v / base
def upV (base v : Int) : Int := (v + base - 1) / base
def rnG (x : List (List Int)) (n m : Nat) (base : Int) (r k : Nat) : Int :=
  if r < n + 1 then (if r < n ∧ k < m then dnV base (ix (rowAt x r) k) else 0)
  else if r < 2 * n + 2 then
    (if r - (n + 1) < n then (if k < m then upV base (ix (rowAt x (r - (n + 1))) k) else upV base (ix (rowS x) (r - (n + 1))) - dnV base (ix (rowS x) (r - (n + 1))))
     else (if k < m then upV base (ix (colS x m) k) - dnV base (ix (colS x m) k) else upV base (rowS x).sum - dnV base (rowS x).sum))
  else if r = 2 * n + 2 then (if k < n then upV base (ix (rowS x) k) else ((colS x m).map (upV base)).sum - dnV base (rowS x).sum)
  else (if k < m then upV base (ix (colS x m) k) else ((rowS x).map (upV base)).sum - dnV base (rowS x).sum)
def rnLen (n m r : Nat) : Nat := if r = 2 * n + 2 then n + 1 else m + 1
def rnRow (g : Nat → Nat → Int) (n m r : Nat) : List Int := (List.range (rnLen n m r)).map (g r)
def rnNet (g : Nat → Nat → Int) (n m : Nat) : Tr := ⟨rnRow g n m (2 * n + 2), rnRow g n m (2 * n + 3), (List.range (n + 1)).map (fun i => rnRow g n m i), (List.range (n + 1)).map (fun i => rnRow g n m (n + 1 + i))⟩
def rnT (x : List (List Int)) (n m : Nat) (base : Int) : Tr := rnNet (rnG x n m base) n m
theorem rnRow_length (g : Nat → Nat → Int) (n m r : Nat) : (rnRow g n m r).length = rnLen n m r := by simp [rnRow]
theorem ix_rnRow {g : Nat → Nat → Int} {n m r k : Nat} (h : k < rnLen n m r) : ix (rnRow g n m r) k = g r k := by simp [ix, rnRow, List.getD, h]
theorem rowAt_map {f : Nat → List Int} {n i : Nat} (h : i < n) : rowAt ((List.range n).map f) i = f i := by simp [rowAt, List.getD, h]

theorem put4_box {w : World} {B : Nat} {y0 y1 y2 y3 : Value} (h : Box w B 30 #[y0, y1, y2, y3]) (x0 x1 x2 x3 : Value) : Box (put4 w B x0 x1 x2 x3) B 30 #[x0, x1, x2, x3] :=
  (((h.set 0 x0).set 1 x1).set 2 x2).set 3 x3
theorem put4_other {w : World} {B b : Nat} (h : b ≠ B) (x0 x1 x2 x3 : Value) : (put4 w B x0 x1 x2 x3).heap[b]? = w.heap[b]? :=
  (Go.Deep.blk_setCell_other _ _ _ _ h).trans ((Go.Deep.blk_setCell_other _ _ _ _ h).trans ((Go.Deep.blk_setCell_other _ _ _ _ h).trans (Go.Deep.blk_setCell_other _ _ _ _ h)))
def rnLive (n d r : Nat) : Prop := r < d ∨ (n + 1 ≤ r ∧ r < n + 1 + d) ∨ r = 2 * n + 2 ∨ r = 2 * n + 3
def rnV (m d : Nat) (f : Nat → Nat) (i : Nat) : Value := if i < d then .slice (some ⟨f i, 0, none⟩) (m + 1) (m + 1) else .slice none 0 0
/-- the network while it is made: d rows of each bound are there; D: what is set -/
structure RnS (w0 : World) (n m d : Nat) (g : Nat → Nat → Int) (D : Nat → Nat → Prop) (B n2 n3 : Nat) (bk : Nat → Nat) (w : World) : Prop where
  dn : d ≤ n + 1
  ext : Ext w0 w
  tr : Box w B 30 #[.slice (some ⟨bk (2 * n + 2), 0, none⟩) (n + 1) (n + 1), .slice (some ⟨bk (2 * n + 3), 0, none⟩) (m + 1) (m + 1), .slice (some ⟨n2, 0, none⟩) (n + 1) (n + 1), .slice (some ⟨n3, 0, none⟩) (n + 1) (n + 1)]
  lo : ∃ c, w.heap[n2]? = some (.cells c 22 (0, 0)) ∧ ∀ i, i < n + 1 → c[i]? = some (rnV m d bk i)
  hi : ∃ c, w.heap[n3]? = some (.cells c 22 (0, 0)) ∧ ∀ i, i < n + 1 → c[i]? = some (rnV m d (fun i => bk (n + 1 + i)) i)
  rows : ∀ r, rnLive n d r → ∃ c, w.heap[bk r]? = some (.cells c 3 (0, 0)) ∧ ∀ k, k < rnLen n m r → ∃ v : Int, c[k]? = some (.int .i64 v) ∧ (D r k → v = g r k) ∧ (¬ D r k → v = 0)
  apart : ∀ r r', rnLive n d r → rnLive n d r' → r ≠ r' → bk r ≠ bk r'
  ne : n2 ≠ n3
  new : w0.heap.size ≤ B ∧ w0.heap.size ≤ n2 ∧ w0.heap.size ≤ n3 ∧ ∀ r, rnLive n d r → w0.heap.size ≤ bk r

namespace RnS
variable {w0 w w' : World} {n m d B n2 n3 : Nat} {g : Nat → Nat → Int} {D D' : Nat → Nat → Prop} {bk : Nat → Nat}
theorem lt2 (h : RnS w0 n m d g D B n2 n3 bk w) : n2 < w.heap.size := by obtain ⟨c, hc, _⟩ := h.lo; exact (Array.getElem?_eq_some_iff.1 hc).1
theorem lt3 (h : RnS w0 n m d g D B n2 n3 bk w) : n3 < w.heap.size := by obtain ⟨c, hc, _⟩ := h.hi; exact (Array.getElem?_eq_some_iff.1 hc).1
theorem ltr (h : RnS w0 n m d g D B n2 n3 bk w) {r : Nat} (hr : rnLive n d r) : bk r < w.heap.size := by obtain ⟨c, hc, _⟩ := h.rows r hr; exact (Array.getElem?_eq_some_iff.1 hc).1
theorem of_ext (h : RnS w0 n m d g D B n2 n3 bk w) (u : Ext w w') : RnS w0 n m d g D B n2 n3 bk w' := by
  refine ⟨h.dn, h.ext.trans u, h.tr.ext u, ?_, ?_, fun r hr => ?_, h.apart, h.ne, h.new⟩
  · obtain ⟨c, hc, hl⟩ := h.lo; exact ⟨c, (u.block h.lt2).trans hc, hl⟩
  · obtain ⟨c, hc, hl⟩ := h.hi; exact ⟨c, (u.block h.lt3).trans hc, hl⟩
  · obtain ⟨c, hc, hl⟩ := h.rows r hr; exact ⟨c, (u.block (h.ltr hr)).trans hc, hl⟩
theorem congr (h : RnS w0 n m d g D B n2 n3 bk w) (hD : ∀ r k, D' r k ↔ D r k) : RnS w0 n m d g D' B n2 n3 bk w := by
  refine ⟨h.dn, h.ext, h.tr, h.lo, h.hi, fun r hr => ?_, h.apart, h.ne, h.new⟩
  obtain ⟨c, hc, hl⟩ := h.rows r hr
  refine ⟨c, hc, fun k hk => ?_⟩
  obtain ⟨v, hv, h1, h2⟩ := hl k hk
  exact ⟨v, hv, fun e => h1 ((hD r k).1 e), fun e => h2 (fun e' => e ((hD r k).2 e'))⟩
theorem neB (h : RnS w0 n m d g D B n2 n3 bk w) {r : Nat} (hr : rnLive n d r) : B ≠ bk r ∧ n2 ≠ bk r ∧ n3 ≠ bk r := by
  obtain ⟨c, hc, _⟩ := h.rows r hr
  obtain ⟨c2, hc2, _⟩ := h.lo
  obtain ⟨c3, hc3, _⟩ := h.hi
  have ht := h.tr
  unfold Box at ht
  refine ⟨fun e => ?_, fun e => ?_, fun e => ?_⟩
  · rw [e, hc] at ht; simp at ht
  · rw [e, hc] at hc2; simp at hc2
  · rw [e, hc] at hc3; simp at hc3
theorem neT (h : RnS w0 n m d g D B n2 n3 bk w) : B ≠ n2 ∧ B ≠ n3 := by
  obtain ⟨c2, hc2, _⟩ := h.lo
  obtain ⟨c3, hc3, _⟩ := h.hi
  have ht := h.tr
  unfold Box at ht
  refine ⟨fun e => ?_, fun e => ?_⟩
  · rw [e, hc2] at ht; simp at ht
  · rw [e, hc3] at ht; simp at ht
theorem cellLo (h : RnS w0 n m d g D B n2 n3 bk w) {i : Nat} (hi' : i < d) : w.cell? ⟨n2, i, none⟩ = some (.slice (some ⟨bk i, 0, none⟩) (m + 1) (m + 1)) := by
  obtain ⟨c, hc, hl⟩ := h.lo
  have := hl i (by have := h.dn; omega)
  unfold rnV at this
  rw [if_pos hi'] at this
  simp [World.cell?, hc, this]
theorem cellHi (h : RnS w0 n m d g D B n2 n3 bk w) {i : Nat} (hi' : i < d) : w.cell? ⟨n3, i, none⟩ = some (.slice (some ⟨bk (n + 1 + i), 0, none⟩) (m + 1) (m + 1)) := by
  obtain ⟨c, hc, hl⟩ := h.hi
  have := hl i (by have := h.dn; omega)
  unfold rnV at this
  rw [if_pos hi'] at this
  simp [World.cell?, hc, this]
theorem nilLo (h : RnS w0 n m d g D B n2 n3 bk w) (hd : d < n + 1) : w.cell? ⟨n2, d, none⟩ = some (.slice none 0 0) ∧ w.frozen? ⟨n2, d, none⟩ = false := by
  obtain ⟨c, hc, hl⟩ := h.lo
  have := hl d hd
  unfold rnV at this
  rw [if_neg (by omega)] at this
  exact ⟨by simp [World.cell?, hc, this], by simp [World.frozen?, hc]⟩
theorem nilHi (h : RnS w0 n m d g D B n2 n3 bk w) (hd : d < n + 1) : w.cell? ⟨n3, d, none⟩ = some (.slice none 0 0) ∧ w.frozen? ⟨n3, d, none⟩ = false := by
  obtain ⟨c, hc, hl⟩ := h.hi
  have := hl d hd
  unfold rnV at this
  rw [if_neg (by omega)] at this
  exact ⟨by simp [World.cell?, hc, this], by simp [World.frozen?, hc]⟩
theorem cellR (h : RnS w0 n m d g D B n2 n3 bk w) {r k : Nat} (hr : rnLive n d r) (hk : k < rnLen n m r) : ∃ v : Int, w.cell? ⟨bk r, k, none⟩ = some (.int .i64 v) ∧ w.frozen? ⟨bk r, k, none⟩ = false ∧ (D r k → v = g r k) ∧ (¬ D r k → v = 0) := by
  obtain ⟨c, hc, hl⟩ := h.rows r hr
  obtain ⟨v, hv, h1, h2⟩ := hl k hk
  exact ⟨v, by simp [World.cell?, hc, hv], by simp [World.frozen?, hc], h1, h2⟩
/-- the value of a cell is set -/
theorem put (h : RnS w0 n m d g D B n2 n3 bk w) {r k : Nat} (hr : rnLive n d r) (hk : k < rnLen n m r) {u : Int} (hu : u = g r k) (hD : ∀ r' k', D' r' k' ↔ D r' k' ∨ (r' = r ∧ k' = k)) :
    RnS w0 n m d g D' B n2 n3 bk (w.setCell ⟨bk r, k, none⟩ (.int .i64 u)) := by
  subst hu
  have hne := h.neB hr
  have oth : ∀ b, b ≠ bk r → (w.setCell ⟨bk r, k, none⟩ (.int .i64 (g r k))).heap[b]? = w.heap[b]? := fun b hb => Go.Deep.blk_setCell_other _ _ _ _ hb
  have hw0 : w0.heap.size ≤ bk r := h.new.2.2.2 r hr
  refine ⟨h.dn, h.ext.setCell _ hw0, (oth B hne.1).trans h.tr, ?_, ?_, fun r' hr' => ?_, h.apart, h.ne, h.new⟩
  · obtain ⟨c, hc, hl⟩ := h.lo; exact ⟨c, (oth n2 hne.2.1).trans hc, hl⟩
  · obtain ⟨c, hc, hl⟩ := h.hi; exact ⟨c, (oth n3 hne.2.2).trans hc, hl⟩
  · obtain ⟨c, hc, hl⟩ := h.rows r' hr'
    by_cases e : r' = r
    · subst e
      refine ⟨c.setIfInBounds k (.int .i64 (g r' k)), by simp [World.setCell, Array.getElem?_modify, hc], fun k' hk' => ?_⟩
      obtain ⟨v, hv, h1, h2⟩ := hl k' hk'
      by_cases ek : k' = k
      · subst ek
        have hb : k' < c.size := (Array.getElem?_eq_some_iff.1 hv).1
        exact ⟨g r' k', by simp [hb], fun _ => rfl, fun hn => absurd ((hD r' k').2 (.inr ⟨rfl, rfl⟩)) hn⟩
      · refine ⟨v, by rw [Array.getElem?_setIfInBounds, if_neg (Ne.symm ek)]; exact hv, fun hd => ?_, fun hd => h2 (fun e => hd ((hD r' k').2 (.inl e)))⟩
        rcases (hD r' k').1 hd with hd | ⟨_, e⟩
        · exact h1 hd
        · exact absurd e ek
    · refine ⟨c, (oth (bk r') (h.apart r' r hr' hr e)).trans hc, fun k' hk' => ?_⟩
      obtain ⟨v, hv, h1, h2⟩ := hl k' hk'
      refine ⟨v, hv, fun hd => ?_, fun hd => h2 (fun e => hd ((hD r' k').2 (.inl e)))⟩
      rcases (hD r' k').1 hd with hd | ⟨e', _⟩
      · exact h1 hd
      · exact absurd e' e
/-- what a row reads as -/
theorem ints (h : RnS w0 n m d g D B n2 n3 bk w) {r : Nat} (hr : rnLive n d r) {xs : List Int} (hl : xs.length = rnLen n m r) (hx : ∀ k, k < rnLen n m r → (D r k → ix xs k = g r k) ∧ (¬ D r k → ix xs k = 0)) (hb : rnLen n m r ≤ 1000) :
    Own w0.heap.size w.heap.size w (.slice (some ⟨bk r, 0, none⟩) (rnLen n m r) (rnLen n m r)) xs := by
  obtain ⟨c, hc, hl'⟩ := h.rows r hr
  refine ⟨_, _, by rw [hl], by omega, by omega, .inr ⟨bk r, 0, c, rfl, h.new.2.2.2 r hr, h.ltr hr, hc, fun k hk => ?_⟩⟩
  rw [hl] at hk
  obtain ⟨v, hv, h1, h2⟩ := hl' k hk
  rw [Nat.zero_add, hv]
  by_cases hd : D r k
  · rw [h1 hd, (hx k hk).1 hd]
  · rw [h2 hd, (hx k hk).2 hd]
/-- all is set -/
theorem tro (h : RnS w0 n m (n + 1) g D B n2 n3 bk w) (hD : ∀ r k, r < 2 * n + 4 → k < rnLen n m r → D r k) (hn : n ≤ 100) (hm : m ≤ 100) :
    TrO w0.heap.size w.heap.size w (.agg #[.slice (some ⟨bk (2 * n + 2), 0, none⟩) (n + 1) (n + 1), .slice (some ⟨bk (2 * n + 3), 0, none⟩) (m + 1) (m + 1), .slice (some ⟨n2, 0, none⟩) (n + 1) (n + 1), .slice (some ⟨n3, 0, none⟩) (n + 1) (n + 1)]) (rnNet g n m) := by
  have hb : ∀ r, rnLen n m r ≤ 1000 := fun r => by unfold rnLen; split <;> omega
  have lv : ∀ r, r < 2 * n + 4 → rnLive n (n + 1) r := fun r hr => by unfold rnLive; omega
  have hown : ∀ r, r < 2 * n + 4 → Own w0.heap.size w.heap.size w (.slice (some ⟨bk r, 0, none⟩) (rnLen n m r) (rnLen n m r)) (rnRow g n m r) := fun r hr =>
    h.ints (lv r hr) (rnRow_length _ _ _ _) (fun k hk => ⟨fun _ => ix_rnRow hk, fun hd => absurd (hD r k hr hk) hd⟩) (hb r)
  have l0 : rnLen n m (2 * n + 2) = n + 1 := by unfold rnLen; rw [if_pos rfl]
  have lr : ∀ r, r ≠ 2 * n + 2 → rnLen n m r = m + 1 := fun r hr => by unfold rnLen; rw [if_neg hr]
  have grid : ∀ (nn s : Nat), s + (n + 1) ≤ 2 * n + 2 → w0.heap.size ≤ nn → nn < w.heap.size → (∃ c, w.heap[nn]? = some (.cells c 22 (0, 0)) ∧ ∀ i, i < n + 1 → c[i]? = some (.slice (some ⟨bk (s + i), 0, none⟩) (m + 1) (m + 1))) →
      OwnG w0.heap.size w.heap.size w (.slice (some ⟨nn, 0, none⟩) (n + 1) (n + 1)) ((List.range (n + 1)).map fun i => .slice (some ⟨bk (s + i), 0, none⟩) (m + 1) (m + 1)) ((List.range (n + 1)).map fun i => rnRow g n m (s + i)) := by
    intro nn s hs h1 h2 ⟨c, hc, hl⟩
    have hv : ∀ i, i < n + 1 → rvAt ((List.range (n + 1)).map fun i => (.slice (some ⟨bk (s + i), 0, none⟩) (m + 1) (m + 1) : Value)) i = .slice (some ⟨bk (s + i), 0, none⟩) (m + 1) (m + 1) := fun i hi => by simp [rvAt, List.getD, hi]
    refine ⟨some ⟨nn, 0, none⟩, n + 1, by simp, by simp, by omega, ⟨by simp, .inr ⟨nn, 0, c, rfl, h1, h2, hc, fun k hk => ?_⟩, fun k hk => ?_, fun j k hj hk hjk _ _ => ?_⟩⟩
    · have hk' : k < n + 1 := by simpa using hk
      rw [Nat.zero_add, hv k hk']; exact hl k hk'
    · have hk' : k < n + 1 := by simpa using hk
      rw [hv k hk', rowAt_map hk']
      have := hown (s + k) (by omega)
      rw [lr _ (by omega)] at this
      exact this
    · have hj' : j < n + 1 := by simpa using hj
      have hk' : k < n + 1 := by simpa using hk
      rw [hv j hj', hv k hk']
      exact h.apart (s + j) (s + k) (lv _ (by omega)) (lv _ (by omega)) (by omega)
  have g2 := grid n2 0 (by omega) h.new.2.1 h.lt2 (by
    obtain ⟨c, hc, hl⟩ := h.lo
    refine ⟨c, hc, fun i hi => ?_⟩
    rw [hl i hi, rnV, if_pos hi, Nat.zero_add])
  have g3 := grid n3 (n + 1) (by omega) h.new.2.2.1 h.lt3 (by
    obtain ⟨c, hc, hl⟩ := h.hi
    refine ⟨c, hc, fun i hi => ?_⟩
    rw [hl i hi, rnV, if_pos hi])
  simp only [Nat.zero_add] at g2
  have q0 := hown (2 * n + 2) (by omega)
  have q1 := hown (2 * n + 3) (by omega)
  rw [l0] at q0
  rw [lr (2 * n + 3) (by omega)] at q1
  have bi : ∀ (v : Value) (xs : List Int) (b : Nat), IB v xs b → b = blk v := fun _ _ _ hb => hb.2
  have bg : ∀ (nn s : Nat) (b : Nat), GB (.slice (some ⟨nn, 0, none⟩) (n + 1) (n + 1)) ((List.range (n + 1)).map fun i => .slice (some ⟨bk (s + i), 0, none⟩) (m + 1) (m + 1)) ((List.range (n + 1)).map fun i => rnRow g n m (s + i)) b → b = nn ∨ ∃ i, i < n + 1 ∧ b = bk (s + i) := by
    intro nn s b hb
    rcases hb with ⟨_, e⟩ | ⟨k, hk, _, e⟩
    · exact .inl e
    · have hk' : k < n + 1 := by simpa using hk
      exact .inr ⟨k, hk', by rw [e]; simp [rvAt, List.getD, hk', blk, ablk]⟩
  have bg2 := bg n2 0
  have bg3 := bg n3 (n + 1)
  simp only [Nat.zero_add] at bg2
  have a0 := lv (2 * n + 2) (by omega)
  have a1 := lv (2 * n + 3) (by omega)
  refine ⟨_, _, _, _, _, _, rfl, q0, q1, g2, g3, ?_, ?_, ?_, ?_, ?_, ?_⟩
  · intro b h1 h2
    have e1 := bi _ _ _ h1
    have e2 := bi _ _ _ h2
    exact h.apart (2 * n + 2) (2 * n + 3) a0 a1 (by omega) (e1.symm.trans e2)
  · intro b h1 h2
    have e1 : b = bk (2 * n + 2) := bi _ _ _ h1
    rcases bg2 b h2 with e2 | ⟨i, hi, e2⟩
    · exact (h.neB a0).2.1 (e2.symm.trans e1)
    · exact h.apart (2 * n + 2) i a0 (lv i (by omega)) (by omega) (e1.symm.trans e2)
  · intro b h1 h2
    have e1 : b = bk (2 * n + 2) := bi _ _ _ h1
    rcases bg3 b h2 with e2 | ⟨i, hi, e2⟩
    · exact (h.neB a0).2.2 (e2.symm.trans e1)
    · exact h.apart (2 * n + 2) (n + 1 + i) a0 (lv _ (by omega)) (by omega) (e1.symm.trans e2)
  · intro b h1 h2
    have e1 : b = bk (2 * n + 3) := bi _ _ _ h1
    rcases bg2 b h2 with e2 | ⟨i, hi, e2⟩
    · exact (h.neB a1).2.1 (e2.symm.trans e1)
    · exact h.apart (2 * n + 3) i a1 (lv i (by omega)) (by omega) (e1.symm.trans e2)
  · intro b h1 h2
    have e1 : b = bk (2 * n + 3) := bi _ _ _ h1
    rcases bg3 b h2 with e2 | ⟨i, hi, e2⟩
    · exact (h.neB a1).2.2 (e2.symm.trans e1)
    · exact h.apart (2 * n + 3) (n + 1 + i) a1 (lv _ (by omega)) (by omega) (e1.symm.trans e2)
  · intro b h1 h2
    rcases bg2 b h1 with e1 | ⟨i, hi, e1⟩
    · rcases bg3 b h2 with e2 | ⟨j, hj, e2⟩
      · exact h.ne (e1.symm.trans e2)
      · exact (h.neB (lv (n + 1 + j) (by omega))).2.1 (e1.symm.trans e2)
    · rcases bg3 b h2 with e2 | ⟨j, hj, e2⟩
      · exact (h.neB (lv i (by omega))).2.2 (e2.symm.trans e1)
      · exact h.apart i (n + 1 + j) (lv _ (by omega)) (lv _ (by omega)) (by omega) (e1.symm.trans e2)
theorem _root_.Go.Proofs.Ytjpomfdmgaambaa.made_at (z : Value) {n i : Nat} (hi : i < n) : (madeCells #[z] n)[i]? = some z := by simp [madeCells, hi, Nat.mod_one]
theorem start {b0 b1 b2 b3 b4 : Nat} (u : Ext w0 w) (hT : Box w b4 30 #[.slice (some ⟨b0, 0, none⟩) (n + 1) (n + 1), .slice (some ⟨b1, 0, none⟩) (m + 1) (m + 1), .slice (some ⟨b2, 0, none⟩) (n + 1) (n + 1), .slice (some ⟨b3, 0, none⟩) (n + 1) (n + 1)])
    (h0 : w.heap[b0]? = some (.cells (madeCells #[.int .i64 0] (n + 1)) 3 (0, 0))) (h1 : w.heap[b1]? = some (.cells (madeCells #[.int .i64 0] (m + 1)) 3 (0, 0)))
    (h2 : w.heap[b2]? = some (.cells (madeCells #[.slice none 0 0] (n + 1)) 22 (0, 0))) (h3 : w.heap[b3]? = some (.cells (madeCells #[.slice none 0 0] (n + 1)) 22 (0, 0)))
    (hs : w0.heap.size ≤ b0 ∧ w0.heap.size ≤ b1 ∧ w0.heap.size ≤ b2 ∧ w0.heap.size ≤ b3 ∧ w0.heap.size ≤ b4) (n01 : b0 ≠ b1) (n23 : b2 ≠ b3) :
    ∃ bk, RnS w0 n m 0 g (fun _ _ => False) b4 b2 b3 bk w := by
  obtain ⟨f, f0, f1⟩ : ∃ f : Nat → Nat, f (2 * n + 2) = b0 ∧ f (2 * n + 3) = b1 := ⟨fun r => if r = 2 * n + 2 then b0 else b1, if_pos rfl, if_neg (by omega)⟩
  refine ⟨f, ?_⟩
  refine ⟨by omega, u, ?_, ⟨_, h2, fun i hi => ?_⟩, ⟨_, h3, fun i hi => ?_⟩, fun r hr => ?_, fun r r' hr hr' hne => ?_, n23, ?_, ?_, ?_, fun r hr => ?_⟩
  · rw [f0, f1]; exact hT
  · rw [made_at _ hi, rnV, if_neg (by omega)]
  · rw [made_at _ hi, rnV, if_neg (by omega)]
  · have hr2 : r = 2 * n + 2 ∨ r = 2 * n + 3 := by unfold rnLive at hr; omega
    rcases hr2 with rfl | rfl
    · refine ⟨_, by rw [f0]; exact h0, fun k hk => ⟨0, made_at _ ?_, fun h => h.elim, fun _ => rfl⟩⟩
      unfold rnLen at hk; rw [if_pos rfl] at hk; exact hk
    · refine ⟨_, by rw [f1]; exact h1, fun k hk => ⟨0, made_at _ ?_, fun h => h.elim, fun _ => rfl⟩⟩
      unfold rnLen at hk; rw [if_neg (by omega)] at hk; exact hk
  · have hr2 : r = 2 * n + 2 ∨ r = 2 * n + 3 := by unfold rnLive at hr; omega
    have hr3 : r' = 2 * n + 2 ∨ r' = 2 * n + 3 := by unfold rnLive at hr'; omega
    rcases hr2 with rfl | rfl <;> rcases hr3 with rfl | rfl
    · exact absurd rfl hne
    · rw [f0, f1]; exact n01
    · rw [f0, f1]; exact n01.symm
    · exact absurd rfl hne
  · omega
  · omega
  · omega
  · have hr2 : r = 2 * n + 2 ∨ r = 2 * n + 3 := by unfold rnLive at hr; omega
    rcases hr2 with rfl | rfl
    · rw [f0]; omega
    · rw [f1]; omega
/-- two fresh rows are laid in -/
theorem addRow {p q : Nat} (h : RnS w0 n m d g D B n2 n3 bk w) (hd : d < n + 1) (u : Ext w w') (hp : w.heap.size ≤ p) (hq : w.heap.size ≤ q) (hpq : p ≠ q)
    (hP : w'.heap[p]? = some (.cells (madeCells #[.int .i64 0] (m + 1)) 3 (0, 0))) (hQ : w'.heap[q]? = some (.cells (madeCells #[.int .i64 0] (m + 1)) 3 (0, 0)))
    (hD : ∀ r k, D r k → r ≠ d ∧ r ≠ n + 1 + d) :
    ∃ bk', RnS w0 n m (d + 1) g D B n2 n3 bk' ((w'.setCell ⟨n2, d, none⟩ (.slice (some ⟨p, 0, none⟩) (m + 1) (m + 1))).setCell ⟨n3, d, none⟩ (.slice (some ⟨q, 0, none⟩) (m + 1) (m + 1))) := by
  obtain ⟨f, f1, f2, f3⟩ : ∃ f : Nat → Nat, f d = p ∧ f (n + 1 + d) = q ∧ ∀ r, r ≠ d → r ≠ n + 1 + d → f r = bk r :=
    ⟨fun r => if r = d then p else if r = n + 1 + d then q else bk r, if_pos rfl, (if_neg (show n + 1 + d ≠ d by omega)).trans (if_pos rfl), fun r e1 e2 => by simp only; rw [if_neg e1, if_neg e2]⟩
  refine ⟨f, ?_⟩
  have h' := h.of_ext u
  have l2 := h.lt2
  have l3 := h.lt3
  have lB := h.tr.lt
  have nT := h.neT
  have oth : ∀ b, b ≠ n2 → b ≠ n3 → ((w'.setCell ⟨n2, d, none⟩ (.slice (some ⟨p, 0, none⟩) (m + 1) (m + 1))).setCell ⟨n3, d, none⟩ (.slice (some ⟨q, 0, none⟩) (m + 1) (m + 1))).heap[b]? = w'.heap[b]? := fun b h2 h3 =>
    (Go.Deep.blk_setCell_other _ _ _ _ h3).trans (Go.Deep.blk_setCell_other _ _ _ _ h2)
  have live : ∀ r, rnLive n (d + 1) r → r = d ∨ r = n + 1 + d ∨ (rnLive n d r ∧ r ≠ d ∧ r ≠ n + 1 + d) := fun r hr => by unfold rnLive at *; omega
  have s0 : w0.heap.size ≤ w.heap.size := h.ext.size
  refine ⟨by omega, (h'.ext.setCell _ h.new.2.1).setCell _ h.new.2.2.1, ?_, ?_, ?_, fun r hr => ?_, fun r r' hr hr' hne => ?_, h.ne, h.new.1, h.new.2.1, h.new.2.2.1, fun r hr => ?_⟩
  · rw [f3 _ (by omega) (by omega), f3 _ (by omega) (by omega)]
    exact (oth B nT.1 nT.2).trans h'.tr
  · obtain ⟨c, hc, hl⟩ := h'.lo
    refine ⟨c.setIfInBounds d (.slice (some ⟨p, 0, none⟩) (m + 1) (m + 1)), ?_, fun i hi => ?_⟩
    · rw [Go.Deep.blk_setCell_other _ _ _ _ h.ne]; simp [World.setCell, Array.getElem?_modify, hc]
    · have := hl i hi
      have hb : i < c.size := (Array.getElem?_eq_some_iff.1 this).1
      unfold rnV at this ⊢
      rw [Array.getElem?_setIfInBounds]
      by_cases e : d = i
      · subst e; rw [if_pos rfl, if_pos hb, if_pos (by omega), f1]
      · rw [if_neg e, this]
        by_cases e2 : i < d
        · rw [if_pos e2, if_pos (by omega), f3 _ (by omega) (by omega)]
        · rw [if_neg e2, if_neg (by omega)]
  · obtain ⟨c, hc, hl⟩ := h'.hi
    have hc' : (w'.setCell ⟨n2, d, none⟩ (.slice (some ⟨p, 0, none⟩) (m + 1) (m + 1))).heap[n3]? = some (.cells c 22 (0, 0)) := (Go.Deep.blk_setCell_other _ _ _ _ h.ne.symm).trans hc
    refine ⟨c.setIfInBounds d (.slice (some ⟨q, 0, none⟩) (m + 1) (m + 1)), ?_, fun i hi => ?_⟩
    · generalize w'.setCell ⟨n2, d, none⟩ (.slice (some ⟨p, 0, none⟩) (m + 1) (m + 1)) = wz at hc'
      simp [World.setCell, Array.getElem?_modify, hc']
    · have := hl i hi
      have hb : i < c.size := (Array.getElem?_eq_some_iff.1 this).1
      unfold rnV at this ⊢
      rw [Array.getElem?_setIfInBounds]
      by_cases e : d = i
      · subst e; rw [if_pos rfl, if_pos hb, if_pos (by omega)]; simp only [f2]
      · rw [if_neg e, this]
        by_cases e2 : i < d
        · rw [if_pos e2, if_pos (by omega)]; simp only [f3 (n + 1 + i) (by omega) (by omega)]
        · rw [if_neg e2, if_neg (by omega)]
  · have lp : p ≠ n2 ∧ p ≠ n3 ∧ q ≠ n2 ∧ q ≠ n3 := by omega
    have zero : ∀ r, (∀ k, ¬ D r k) → r ≠ 2 * n + 2 → ∀ k, k < rnLen n m r → ∃ v : Int, (madeCells #[.int .i64 0] (m + 1))[k]? = some (.int .i64 v) ∧ (D r k → v = g r k) ∧ (¬ D r k → v = 0) := fun r hD' hr' k hk => by
      unfold rnLen at hk; rw [if_neg hr'] at hk
      exact ⟨0, made_at _ hk, fun h => absurd h (hD' k), fun _ => rfl⟩
    rcases live r hr with e | e | ⟨hr', e1, e2⟩
    · subst e
      refine ⟨_, by rw [f1, oth p lp.1 lp.2.1]; exact hP, zero r (fun k hd => (hD r k hd).1 rfl) (by omega)⟩
    · subst e
      refine ⟨_, by rw [f2, oth q lp.2.2.1 lp.2.2.2]; exact hQ, zero _ (fun k hd => (hD _ k hd).2 rfl) (by omega)⟩
    · have hne := h'.neB hr'
      obtain ⟨c, hc, hl⟩ := h'.rows r hr'
      exact ⟨c, by rw [f3 r e1 e2, oth _ hne.2.1.symm hne.2.2.symm]; exact hc, hl⟩
  · have bkp : ∀ r, rnLive n d r → bk r < w.heap.size := fun r hr => h.ltr hr
    rcases live r hr with e | e | ⟨hr1, e1, e2⟩ <;> rcases live r' hr' with k | k | ⟨hr2, k1, k2⟩
    · omega
    · rw [e, k, f1, f2]; exact hpq
    · rw [e, f1, f3 r' k1 k2]; have := bkp r' hr2; omega
    · rw [e, k, f1, f2]; exact hpq.symm
    · omega
    · rw [e, f2, f3 r' k1 k2]; have := bkp r' hr2; omega
    · rw [k, f1, f3 r e1 e2]; have := bkp r hr1; omega
    · rw [k, f2, f3 r e1 e2]; have := bkp r hr1; omega
    · rw [f3 r e1 e2, f3 r' k1 k2]; exact h.apart r r' hr1 hr2 hne
  · rcases live r hr with e | e | ⟨hr1, e1, e2⟩
    · rw [e, f1]; omega
    · rw [e, f2]; omega
    · rw [f3 r e1 e2]; exact h.new.2.2.2 r hr1
/-- two rows are made and laid in, in whichever order -/
theorem addRow2 {p q : Nat} (h : RnS w0 n m d g D B n2 n3 bk w) (hd : d < n + 1) (hpq : (p = w.heap.size ∧ q = w.heap.size + 1) ∨ (p = w.heap.size + 1 ∧ q = w.heap.size)) (hD : ∀ r k, D r k → r ≠ d ∧ r ≠ n + 1 + d) :
    ∃ bk', RnS w0 n m (d + 1) g D B n2 n3 bk' ((((w.setCell ⟨n2, d, none⟩ (.slice (some ⟨p, 0, none⟩) (m + 1) (m + 1))).setCell ⟨n3, d, none⟩ (.slice (some ⟨q, 0, none⟩) (m + 1) (m + 1))).alloc (.cells (madeCells #[.int .i64 0] (m + 1)) 3)).alloc (.cells (madeCells #[.int .i64 0] (m + 1)) 3)).drew := by
  obtain ⟨Z, hZ⟩ : ∃ Z, Z = Obj.cells (madeCells #[.int .i64 0] (m + 1)) 3 := ⟨_, rfl⟩
  rw [← hZ]
  have l2 := h.lt2
  have l3 := h.lt3
  have s1 : ∀ (x : World) (a : Addr) v, (x.setCell a v).heap.size = x.heap.size := fun x a v => by simp [World.setCell]
  have s2 : ∀ (x : World) o, (x.alloc o).heap.size = x.heap.size + 1 := fun x o => by simp
  have e : (((w.setCell ⟨n2, d, none⟩ (.slice (some ⟨p, 0, none⟩) (m + 1) (m + 1))).setCell ⟨n3, d, none⟩ (.slice (some ⟨q, 0, none⟩) (m + 1) (m + 1))).alloc Z).alloc Z
      = (((w.alloc Z).alloc Z).setCell ⟨n2, d, none⟩ (.slice (some ⟨p, 0, none⟩) (m + 1) (m + 1))).setCell ⟨n3, d, none⟩ (.slice (some ⟨q, 0, none⟩) (m + 1) (m + 1)) := by
    rw [World.setCell_alloc_past Z n2 d _ (by rw [s2]; omega), World.setCell_alloc_past Z n2 d _ l2, World.setCell_alloc_past Z n3 d _ (by rw [s2, s1]; omega), World.setCell_alloc_past Z n3 d _ (by rw [s1]; omega)]
  rw [e]
  have u := ((Ext.refl w).alloc Z).alloc Z
  have b0 : ((w.alloc Z).alloc Z).heap[w.heap.size]? = some Z := (((Ext.refl (w.alloc Z)).alloc Z).block (by rw [s2]; omega)).trans (by rw [hZ]; exact Go.Deep.blk_alloc_new _ _)
  have b1 : ((w.alloc Z).alloc Z).heap[w.heap.size + 1]? = some Z := by
    have := Go.Deep.blk_alloc_new (w.alloc Z) Z
    rw [s2] at this; exact this
  rw [hZ] at b0 b1 u ⊢
  rcases hpq with ⟨rfl, rfl⟩ | ⟨rfl, rfl⟩
  · obtain ⟨bk', h'⟩ := h.addRow hd u (Nat.le_refl _) (Nat.le_succ _) (by omega) b0 b1 hD
    exact ⟨bk', h'.of_ext (Ext.refl _).drew⟩
  · obtain ⟨bk', h'⟩ := h.addRow hd u (Nat.le_succ _) (Nat.le_refl _) (by omega) b1 b0 hD
    exact ⟨bk', h'.of_ext (Ext.refl _).drew⟩
/-- what was not set is zero, and is to be -/
theorem full (h : RnS w0 n m d g D B n2 n3 bk w) (hz : ∀ r k, rnLive n d r → k < rnLen n m r → ¬ D r k → g r k = 0) : RnS w0 n m d g (fun _ _ => True) B n2 n3 bk w := by
  refine ⟨h.dn, h.ext, h.tr, h.lo, h.hi, fun r hr => ?_, h.apart, h.ne, h.new⟩
  obtain ⟨c, hc, hl⟩ := h.rows r hr
  refine ⟨c, hc, fun k hk => ?_⟩
  obtain ⟨v, hv, h1, h2⟩ := hl k hk
  refine ⟨v, hv, fun _ => ?_, fun hn => absurd trivial hn⟩
  by_cases hd : D r k
  · exact h1 hd
  · rw [h2 hd, hz r k hr hk hd]
/-- the head of a row reads as -/
theorem reads (h : RnS w0 n m d g D B n2 n3 bk w) {r q : Nat} (hr : rnLive n d r) {xs : List Int} (hl : xs.length = q) (hq : q ≤ rnLen n m r) (hx : ∀ k, k < q → (D r k → ix xs k = g r k) ∧ (¬ D r k → ix xs k = 0)) (hb : rnLen n m r ≤ 1000) :
    Ints w (.slice (some ⟨bk r, 0, none⟩) q (rnLen n m r)) xs := by
  obtain ⟨c, hc, hl'⟩ := h.rows r hr
  refine ⟨_, _, by rw [hl], by omega, by omega, fun k hk => ⟨bk r, 0, rfl, ?_⟩⟩
  rw [hl] at hk
  obtain ⟨v, hv, h1, h2⟩ := hl' k (by omega)
  have e : w.cell? ⟨bk r, 0 + k, none⟩ = some (.int .i64 v) := by simp [World.cell?, hc, hv]
  rw [e]
  by_cases hd : D r k
  · rw [h1 hd, (hx k hk).1 hd]
  · rw [h2 hd, (hx k hk).2 hd]
end RnS

/-! ### Which cells are set when -/
def rnD2 (n m i j r k : Nat) : Prop := k < m ∧ ((r < i ∨ (r = i ∧ k < j)) ∨ (n + 1 ≤ r ∧ (r < n + 1 + i ∨ (r = n + 1 + i ∧ k < j))))
def rnD4 (n m i r k : Nat) : Prop := rnD2 n m n 0 r k ∨ (r = 2 * n + 2 ∧ k < i) ∨ (n + 1 ≤ r ∧ r < n + 1 + i ∧ k = m)
def rnD5 (n m j r k : Nat) : Prop := rnD4 n m n r k ∨ (r = 2 * n + 3 ∧ k < j) ∨ (r = 2 * n + 1 ∧ k < j)
def rnD6 (n m r k : Nat) : Prop := rnD5 n m m r k ∨ (r = 2 * n + 1 ∧ k = m)
def rnD7 (n m r k : Nat) : Prop := rnD6 n m r k ∨ (r = 2 * n + 2 ∧ k = n)
def rnD8 (n m r k : Nat) : Prop := rnD7 n m r k ∨ (r = 2 * n + 3 ∧ k = m)

variable {x : List (List Int)} {n m : Nat} {base : Int}
theorem rnG_lo {i j : Nat} (hi : i < n) (hj : j < m) : dnV base (ix (rowAt x i) j) = rnG x n m base i j := by
  unfold rnG; rw [if_pos (by omega), if_pos ⟨hi, hj⟩]
theorem rnG_hi {i j : Nat} (hi : i < n) (hj : j < m) : upV base (ix (rowAt x i) j) = rnG x n m base (n + 1 + i) j := by
  have e : n + 1 + i - (n + 1) = i := by omega
  unfold rnG; rw [if_neg (by omega), if_pos (by omega), e, if_pos hi, if_pos hj]
theorem rnG_hiM {i : Nat} (hi : i < n) : upV base (ix (rowS x) i) - dnV base (ix (rowS x) i) = rnG x n m base (n + 1 + i) m := by
  have e : n + 1 + i - (n + 1) = i := by omega
  unfold rnG; rw [if_neg (by omega), if_pos (by omega), e, if_pos hi, if_neg (by omega)]
theorem rnG_hiN {j : Nat} (hj : j < m) : upV base (ix (colS x m) j) - dnV base (ix (colS x m) j) = rnG x n m base (2 * n + 1) j := by
  unfold rnG; rw [if_neg (by omega), if_pos (by omega), if_neg (by omega), if_pos hj]
theorem rnG_hiNM : upV base (rowS x).sum - dnV base (rowS x).sum = rnG x n m base (2 * n + 1) m := by
  unfold rnG; rw [if_neg (by omega), if_pos (by omega), if_neg (by omega), if_neg (by omega)]
theorem rnG_row {i : Nat} (hi : i < n) : upV base (ix (rowS x) i) = rnG x n m base (2 * n + 2) i := by
  unfold rnG; rw [if_neg (by omega), if_neg (by omega), if_pos rfl, if_pos hi]
theorem rnG_rowN : ((colS x m).map (upV base)).sum - dnV base (rowS x).sum = rnG x n m base (2 * n + 2) n := by
  unfold rnG; rw [if_neg (by omega), if_neg (by omega), if_pos rfl, if_neg (by omega)]
theorem rnG_col {j : Nat} (hj : j < m) : upV base (ix (colS x m) j) = rnG x n m base (2 * n + 3) j := by
  unfold rnG; rw [if_neg (by omega), if_neg (by omega), if_neg (by omega), if_pos hj]
theorem rnG_colM : ((rowS x).map (upV base)).sum - dnV base (rowS x).sum = rnG x n m base (2 * n + 3) m := by
  unfold rnG; rw [if_neg (by omega), if_neg (by omega), if_neg (by omega), if_neg (by omega)]
theorem rnG_zero {r k : Nat} (hr : rnLive n (n + 1) r) (hk : k < rnLen n m r) (h : ¬ rnD8 n m r k) : rnG x n m base r k = 0 := by
  have hr' : r < n + 1 := by
    unfold rnLive at hr
    unfold rnLen at hk
    unfold rnD8 rnD7 rnD6 rnD5 rnD4 rnD2 at h
    split at hk <;> omega
  have hk' : ¬ (r < n ∧ k < m) := fun e => h (.inl (.inl (.inl (.inl (.inl ⟨e.2, .inl (.inl e.1)⟩)))))
  unfold rnG; rw [if_pos hr', if_neg hk']
theorem sum_range {B : Int} : ∀ {xs : List Int}, (∀ y ∈ xs, 0 ≤ y ∧ y ≤ B) → 0 ≤ xs.sum ∧ xs.sum ≤ B * xs.length
  | [], _ => by simp
  | y :: xs, h => by
    have h1 := h y (by simp)
    have h2 := sum_range (xs := xs) (fun z hz => h z (by simp [hz]))
    have e : B * ((y :: xs).length : Int) = B * (xs.length : Int) + B := by rw [List.length_cons, Int.natCast_add, Int.natCast_one, Int.mul_add, Int.mul_one]
    rw [e, List.sum_cons]
    omega
theorem mem_ix {xs : List Int} {y : Int} (h : y ∈ xs) : ∃ k, k < xs.length ∧ ix xs k = y := by
  obtain ⟨k, hk, rfl⟩ := List.getElem_of_mem h
  exact ⟨k, hk, ix_eq hk⟩
theorem rowS_bd (hM : MatOk x m) (hE : ∀ k l, k < n → l < m → 0 ≤ ix (rowAt x k) l ∧ ix (rowAt x k) l ≤ 10000) (hn : x.length = n) {k : Nat} (hk : k < n) : 0 ≤ ix (rowS x) k ∧ ix (rowS x) k ≤ 80000 := by
  rw [ix_rowS (by omega)]
  have hl := hM.row k (by omega)
  have := sum_range (xs := rowAt x k) (B := 10000) (fun y hy => by
    obtain ⟨l, hl', rfl⟩ := mem_ix hy
    exact hE k l hk (by omega))
  rw [hl] at this
  have := hM.m8
  omega
theorem colS_bd (hM : MatOk x m) (hE : ∀ k l, k < n → l < m → 0 ≤ ix (rowAt x k) l ∧ ix (rowAt x k) l ≤ 10000) (hn : x.length = n) {j : Nat} (hj : j < m) : 0 ≤ ix (colS x m) j ∧ ix (colS x m) j ≤ 80000 := by
  rw [ix_colS hj]
  have := sum_range (xs := colOf x j) (B := 10000) (fun y hy => by
    obtain ⟨l, hl', rfl⟩ := mem_ix hy
    rw [colOf_length] at hl'
    rw [ix_colOf hl']
    exact hE l j (by omega) hj)
  rw [colOf_length] at this
  have := hM.n8
  omega
theorem all_bd (hM : MatOk x m) (hE : ∀ k l, k < n → l < m → 0 ≤ ix (rowAt x k) l ∧ ix (rowAt x k) l ≤ 10000) (hn : x.length = n) : 0 ≤ (rowS x).sum ∧ (rowS x).sum ≤ 640000 := by
  have := sum_range (xs := rowS x) (B := 80000) (fun y hy => by
    obtain ⟨l, hl', rfl⟩ := mem_ix hy
    rw [rowS_length] at hl'
    exact rowS_bd hM hE hn (by omega))
  rw [rowS_length] at this
  have := hM.n8
  omega
theorem upV_bd {base v B : Int} (h0 : 0 ≤ v) (h1 : v ≤ B) (h2 : 2 ≤ base) (h3 : base ≤ 100) : 0 ≤ upV base v ∧ upV base v ≤ B + 100 := by
  unfold upV
  have a := Int.ediv_nonneg (a := v + base - 1) (b := base) (by omega) (by omega)
  have b := Int.ediv_le_self (a := v + base - 1) base (by omega)
  omega
theorem dnV_bd {base v B : Int} (h0 : 0 ≤ v) (h1 : v ≤ B) (h2 : 2 ≤ base) : 0 ≤ dnV base v ∧ dnV base v ≤ B := by
  unfold dnV
  have a := Int.ediv_nonneg (a := v) (b := base) h0 (by omega)
  have b := Int.ediv_le_self (a := v) base h0
  omega
theorem rnG_hiN' {j : Nat} (hj : j < m) : upV base (ix (colS x m) j) - dnV base (ix (colS x m) j) = rnG x n m base (n + 1 + n) j := by
  rw [show n + 1 + n = 2 * n + 1 by omega]; exact rnG_hiN hj
theorem rnG_hiNM' : upV base (rowS x).sum - dnV base (rowS x).sum = rnG x n m base (n + 1 + n) m := by
  rw [show n + 1 + n = 2 * n + 1 by omega]; exact rnG_hiNM
/-- the rounded sums of the rows, of the columns -/
def upR (x : List (List Int)) (base : Int) : List Int := (rowS x).map (upV base)
def upC (x : List (List Int)) (m : Nat) (base : Int) : List Int := (colS x m).map (upV base)
theorem upR_length (h : x.length = n) : (upR x base).length = n := by simp [upR, rowS_length, h]
theorem upC_length : (upC x m base).length = m := by simp [upC, colS_length]
theorem ix_upR (h : x.length = n) {k : Nat} (hk : k < n) : ix (upR x base) k = upV base (ix (rowS x) k) := by
  have hk' : k < (rowS x).length := by rw [rowS_length]; omega
  rw [ix_eq (by rw [upR_length h]; exact hk), ix_eq hk']; simp [upR]
theorem ix_upC {k : Nat} (hk : k < m) : ix (upC x m base) k = upV base (ix (colS x m) k) := by
  have hk' : k < (colS x m).length := by rw [colS_length]; omega
  rw [ix_eq (by rw [upC_length]; exact hk), ix_eq hk']; simp [upC]
theorem upR_el (hM : MatOk x m) (hE : ∀ k l, k < n → l < m → 0 ≤ ix (rowAt x k) l ∧ ix (rowAt x k) l ≤ 10000) (hn : x.length = n) (h2 : 2 ≤ base) (h3 : base ≤ 100) : ∀ y ∈ upR x base, 0 ≤ y ∧ y ≤ 80100 := fun y hy => by
  obtain ⟨k, hk, rfl⟩ := mem_ix hy
  rw [upR_length hn] at hk
  rw [ix_upR hn hk]
  have := rowS_bd hM hE hn hk
  exact upV_bd this.1 this.2 h2 h3
theorem upC_el (hM : MatOk x m) (hE : ∀ k l, k < n → l < m → 0 ≤ ix (rowAt x k) l ∧ ix (rowAt x k) l ≤ 10000) (hn : x.length = n) (h2 : 2 ≤ base) (h3 : base ≤ 100) : ∀ y ∈ upC x m base, 0 ≤ y ∧ y ≤ 80100 := fun y hy => by
  obtain ⟨k, hk, rfl⟩ := mem_ix hy
  rw [upC_length] at hk
  rw [ix_upC hk]
  have := colS_bd hM hE hn hk
  exact upV_bd this.1 this.2 h2 h3
theorem upR_sum (hM : MatOk x m) (hE : ∀ k l, k < n → l < m → 0 ≤ ix (rowAt x k) l ∧ ix (rowAt x k) l ≤ 10000) (hn : x.length = n) (h2 : 2 ≤ base) (h3 : base ≤ 100) : 0 ≤ (upR x base).sum ∧ (upR x base).sum ≤ 640800 := by
  have := sum_range (upR_el hM hE hn h2 h3)
  rw [upR_length hn] at this
  have := hM.n8
  omega
theorem upC_sum (hM : MatOk x m) (hE : ∀ k l, k < n → l < m → 0 ≤ ix (rowAt x k) l ∧ ix (rowAt x k) l ≤ 10000) (hn : x.length = n) (h2 : 2 ≤ base) (h3 : base ≤ 100) : 0 ≤ (upC x m base).sum ∧ (upC x m base).sum ≤ 640800 := by
  have := sum_range (upC_el hM hE hn h2 h3)
  rw [upC_length] at this
  have := hM.m8
  omega
theorem upR_ok (hM : MatOk x m) (hE : ∀ k l, k < n → l < m → 0 ≤ ix (rowAt x k) l ∧ ix (rowAt x k) l ≤ 10000) (hn : x.length = n) (h2 : 2 ≤ base) (h3 : base ≤ 100) : SumOk (upR x base) :=
  SumOk.of_bound (B := 80100) (by omega) (fun y hy => by have := upR_el hM hE hn h2 h3 y hy; omega) (n := 8) (by rw [upR_length hn]; have := hM.n8; omega) (by omega)
theorem upC_ok0 (hM : MatOk x m) (hE : ∀ k l, k < n → l < m → 0 ≤ ix (rowAt x k) l ∧ ix (rowAt x k) l ≤ 10000) (hn : x.length = n) (h2 : 2 ≤ base) (h3 : base ≤ 100) : SumOk (upC x m base ++ [0]) :=
  SumOk.of_bound (B := 80100) (by omega) (fun y hy => by
    rcases List.mem_append.1 hy with h | h
    · have := upC_el hM hE hn h2 h3 y h; omega
    · simp at h; omega) (n := 9) (by have := hM.m8; simp [upC_length]; omega) (by omega)
theorem upC_sum0 : (upC x m base ++ [0]).sum = (upC x m base).sum := by simp
theorem rnG_rowN' : (upC x m base).sum - dnV base (rowS x).sum = rnG x n m base (2 * n + 2) n := rnG_rowN
theorem rnG_colM' : (upR x base).sum - dnV base (rowS x).sum = rnG x n m base (2 * n + 3) m := rnG_colM
/-- what the network's fields hold -/
structure NetOf (x : List (List Int)) (n m : Nat) (base : Int) (R C : List Int) (L H : List (List Int)) : Prop where
  r1 : R.length = n + 1
  c1 : C.length = m + 1
  l1 : L.length = n + 1
  h1 : H.length = n + 1
  ll : ∀ k, k < n + 1 → (rowAt L k).length = m + 1
  hl : ∀ k, k < n + 1 → (rowAt H k).length = m + 1
  lo : ∀ k l, k < n → l < m → ix (rowAt L k) l = dnV base (ix (rowAt x k) l)
  loM : ∀ k, k < n → ix (rowAt L k) m = 0
  loN : ∀ l, l < m + 1 → ix (rowAt L n) l = 0
  hi : ∀ k l, k < n → l < m → ix (rowAt H k) l = upV base (ix (rowAt x k) l)
  hiM : ∀ k, k < n → ix (rowAt H k) m = upV base (ix (rowS x) k) - dnV base (ix (rowS x) k)
  hiN : ∀ l, l < m → ix (rowAt H n) l = upV base (ix (colS x m) l) - dnV base (ix (colS x m) l)
  hiNM : ix (rowAt H n) m = upV base (rowS x).sum - dnV base (rowS x).sum
  rw : ∀ k, k < n → ix R k = upV base (ix (rowS x) k)
  rwN : ix R n = (upC x m base).sum - dnV base (rowS x).sum
  cl : ∀ j, j < m → ix C j = upV base (ix (colS x m) j)
  clM : ix C m = (upR x base).sum - dnV base (rowS x).sum
theorem netOf : NetOf x n m base (rnT x n m base).rows (rnT x n m base).cols (rnT x n m base).lo (rnT x n m base).hi := by
  have l0 : rnLen n m (2 * n + 2) = n + 1 := by unfold rnLen; rw [if_pos rfl]
  have lr : ∀ r, r ≠ 2 * n + 2 → rnLen n m r = m + 1 := fun r hr => by unfold rnLen; rw [if_neg hr]
  have eL : ∀ k, k < n + 1 → rowAt (rnT x n m base).lo k = rnRow (rnG x n m base) n m k := fun k hk => rowAt_map hk
  have eH : ∀ k, k < n + 1 → rowAt (rnT x n m base).hi k = rnRow (rnG x n m base) n m (n + 1 + k) := fun k hk => rowAt_map (f := fun i => rnRow (rnG x n m base) n m (n + 1 + i)) hk
  have eR : (rnT x n m base).rows = rnRow (rnG x n m base) n m (2 * n + 2) := rfl
  have eC : (rnT x n m base).cols = rnRow (rnG x n m base) n m (2 * n + 3) := rfl
  refine ⟨?_, ?_, by simp [rnT, rnNet], by simp [rnT, rnNet], fun k hk => ?_, fun k hk => ?_, fun k l hk hl => ?_, fun k hk => ?_, fun l hl => ?_, fun k l hk hl => ?_, fun k hk => ?_, fun l hl => ?_, ?_, fun k hk => ?_, ?_, fun j hj => ?_, ?_⟩
  · rw [eR, rnRow_length, l0]
  · rw [eC, rnRow_length, lr _ (by omega)]
  · rw [eL k hk, rnRow_length, lr _ (by omega)]
  · rw [eH k hk, rnRow_length, lr _ (by omega)]
  · rw [eL k (by omega), ix_rnRow (by rw [lr _ (by omega)]; omega), ← rnG_lo hk hl]
  · rw [eL k (by omega), ix_rnRow (by rw [lr _ (by omega)]; omega)]
    unfold rnG; rw [if_pos (by omega), if_neg (by omega)]
  · rw [eL n (by omega), ix_rnRow (by rw [lr _ (by omega)]; omega)]
    unfold rnG; rw [if_pos (by omega), if_neg (by omega)]
  · rw [eH k (by omega), ix_rnRow (by rw [lr _ (by omega)]; omega), ← rnG_hi hk hl]
  · rw [eH k (by omega), ix_rnRow (by rw [lr _ (by omega)]; omega), ← rnG_hiM hk]
  · rw [eH n (by omega), ix_rnRow (by rw [lr _ (by omega)]; omega), ← rnG_hiN' hl]
  · rw [eH n (by omega), ix_rnRow (by rw [lr _ (by omega)]; omega), ← rnG_hiNM']
  · rw [eR, ix_rnRow (by rw [l0]; omega), ← rnG_row hk]
  · rw [eR, ix_rnRow (by rw [l0]; omega), ← rnG_rowN']
  · rw [eC, ix_rnRow (by rw [lr _ (by omega)]; omega), ← rnG_col hj]
  · rw [eC, ix_rnRow (by rw [lr _ (by omega)]; omega), ← rnG_colM']
theorem rnT_eq : rnT x n m base = ⟨(rnT x n m base).rows, (rnT x n m base).cols, (rnT x n m base).lo, (rnT x n m base).hi⟩ := rfl
theorem take_sum_range {B : Int} {xs : List Int} {n : Nat} (h : ∀ y ∈ xs, 0 ≤ y ∧ y ≤ B) (hl : xs.length = n) (k : Nat) : 0 ≤ (xs.take k).sum ∧ (xs.take k).sum ≤ B * n := by
  have h1 := sum_range (xs := xs.take k) (fun y hy => h y (List.mem_of_mem_take hy))
  have h2 := sum_range (xs := xs.drop k) (fun y hy => h y (List.mem_of_mem_drop hy))
  have h3 := sum_range h
  rw [hl] at h3
  have e : (xs.take k).sum + (xs.drop k).sum = xs.sum := by rw [← List.sum_append, List.take_append_drop]
  omega
end Go.Proofs.Ytjpomfdmgaambaa
