/- Breadth-first search over what is left, and the way back: plain, no program in sight. -/
import Derived.Test.YtodnkahnbidgaaaLib
import Derived.Test.YtodnkahnbidgaaaFm
namespace Go.Proofs.Ytodnkahnbidgaaa
open Fm

def vat (vis : List Nat) (i : Nat) : Nat := vis.getD i 0
theorem vat_eq {vis : List Nat} {i : Nat} (h : i < vis.length) : vat vis i = vis[i] := by simp [vat, List.getD, h]
theorem vat_mem {vis : List Nat} {i : Nat} (h : i < vis.length) : vat vis i ∈ vis := by rw [vat_eq h]; exact List.getElem_mem h
theorem vat_left {vis : List Nat} {v i : Nat} (h : i < vis.length) : vat (vis ++ [v]) i = vat vis i := by simp [vat, List.getD, List.getElem?_append_left h]
theorem vat_last {vis : List Nat} {v : Nat} : vat (vis ++ [v]) vis.length = v := by simp [vat, List.getD]
theorem nodup_length_le : ∀ (N : Nat) (l : List Nat), l.Nodup → (∀ v ∈ l, v < N) → l.length ≤ N
  | 0, l, _, h => by
    cases l with
    | nil => simp
    | cons a t => have := h a (by simp); omega
  | N + 1, l, hn, h => by
    by_cases hm : N ∈ l
    · have h1 := nodup_length_le N (l.erase N) (hn.erase N) (fun v hv => by
        have h2 := (hn.mem_erase_iff).1 hv
        have := h v h2.2
        have := h2.1
        omega)
      rw [List.length_erase_of_mem hm] at h1; omega
    · exact Nat.le_succ_of_le (nodup_length_le N l hn (fun v hv => by
        have := h v hv
        have : v ≠ N := fun e => hm (e ▸ hv)
        omega))

/-- a search under way: B: whence each node was reached (-1: not yet), vis: the nodes reached, in their order -/
structure Bfs (N : Nat) (r : Nat → Nat → Int) (s : Nat) (B : List Int) (vis : List Nat) : Prop where
  blen : B.length = N
  nodup : vis.Nodup
  lt : ∀ v ∈ vis, v < N
  pos : 0 < vis.length
  head : vat vis 0 = s
  neg : ∀ v, v < N → v ∉ vis → ix B v = -1
  src : ix B s = s
  bk : ∀ i, 0 < i → i < vis.length → ∃ j, j < i ∧ ix B (vat vis i) = (vat vis j : Int) ∧ 0 < r (vat vis j) (vat vis i)
def Closed (N : Nat) (r : Nat → Nat → Int) (vis : List Nat) (h : Nat) : Prop := ∀ i, i < h → ∀ v, v < N → 0 < r (vat vis i) v → v ∈ vis
def Part (r : Nat → Nat → Int) (vis : List Nat) (h l : Nat) : Prop := ∀ v, v < l → 0 < r (vat vis h) v → v ∈ vis
theorem Closed.zero {N : Nat} {r : Nat → Nat → Int} {vis : List Nat} : Closed N r vis 0 := fun i hi => by omega
theorem Closed.add {N h v : Nat} {r : Nat → Nat → Int} {vis : List Nat} (hc : Closed N r vis h) (hh : h ≤ vis.length) : Closed N r (vis ++ [v]) h := fun i hi u hu hr => by
  rw [vat_left (by omega)] at hr
  simp [hc i hi u hu hr]
theorem Closed.next {N h : Nat} {r : Nat → Nat → Int} {vis : List Nat} (hc : Closed N r vis h) (hp : Part r vis h N) : Closed N r vis (h + 1) := fun i hi u hu hr => by
  by_cases e : i = h
  · subst e; exact hp u hu hr
  · exact hc i (by omega) u hu hr
theorem Part.zero {r : Nat → Nat → Int} {vis : List Nat} {h : Nat} : Part r vis h 0 := fun v hv => by omega
theorem Part.keep {r : Nat → Nat → Int} {vis : List Nat} {h l : Nat} (hp : Part r vis h l) (hl : 0 < r (vat vis h) l → l ∈ vis) : Part r vis h (l + 1) := fun v hv hr => by
  by_cases e : v = l
  · subst e; exact hl hr
  · exact hp v (by omega) hr
theorem Part.add {r : Nat → Nat → Int} {vis : List Nat} {h l : Nat} (hp : Part r vis h l) (hh : h < vis.length) : Part r (vis ++ [l]) h (l + 1) := fun v hv hr => by
  by_cases e : v = l
  · simp [e]
  · rw [vat_left hh] at hr
    simp [hp v (by omega) hr]
namespace Bfs
variable {N s t h v : Nat} {r : Nat → Nat → Int} {B : List Int} {vis : List Nat}
theorem start (hs : s < N) {B0 : List Int} (hB : B0.length = N) (hn : ∀ v, v < N → ix B0 v = -1) : Bfs N r s (B0.set s (s : Int)) [s] where
  blen := by simp [hB]
  nodup := by simp
  lt := by simp; exact hs
  pos := by simp
  head := by simp [vat]
  neg v hv hm := by
    rw [ix_set, if_neg (by simp at hm; exact fun e => hm e.1)]; exact hn v hv
  src := by rw [ix_set, if_pos ⟨rfl, by omega⟩]
  bk i h0 h1 := by simp at h1; omega
theorem length_le (h : Bfs N r s B vis) : vis.length ≤ N := nodup_length_le N vis h.nodup h.lt
theorem at_ (_h : Bfs N r s B vis) (hv : v ∈ vis) : ∃ i, i < vis.length ∧ vat vis i = v := by
  obtain ⟨i, hi, e⟩ := List.getElem_of_mem hv
  exact ⟨i, hi, by rw [vat_eq hi]; exact e⟩
theorem nonneg (h : Bfs N r s B vis) (hv : v ∈ vis) : ∃ u : Nat, u < N ∧ ix B v = (u : Int) := by
  obtain ⟨i, hi, rfl⟩ := h.at_ hv
  by_cases e : i = 0
  · subst e
    rw [h.head, h.src]
    exact ⟨s, by rw [← h.head]; exact h.lt _ (vat_mem hi), rfl⟩
  · obtain ⟨j, hj, e2, _⟩ := h.bk i (by omega) hi
    exact ⟨_, h.lt _ (vat_mem (by omega)), e2⟩
theorem mem_iff (h : Bfs N r s B vis) (hv : v < N) : v ∈ vis ↔ 0 ≤ ix B v := by
  constructor
  · intro hm; obtain ⟨u, _, e⟩ := h.nonneg hm; omega
  · intro h0
    by_cases hm : v ∈ vis
    · exact hm
    · have := h.neg v hv hm; omega
theorem range (h : Bfs N r s B vis) (hv : v < N) : -1 ≤ ix B v ∧ ix B v < N := by
  by_cases hm : v ∈ vis
  · obtain ⟨u, hu, e⟩ := h.nonneg hm; omega
  · have := h.neg v hv hm; omega
theorem add (h : Bfs N r s B vis) {k : Nat} (hk : k < vis.length) (hv : v < N) (hnot : v ∉ vis) (hr : 0 < r (vat vis k) v) : Bfs N r s (B.set v (vat vis k : Int)) (vis ++ [v]) where
  blen := by simp [h.blen]
  nodup := by
    rw [List.nodup_append]
    refine ⟨h.nodup, by simp, fun a ha b hb => ?_⟩
    simp at hb; subst hb; exact fun e => hnot (e ▸ ha)
  lt u hu := by
    simp at hu
    rcases hu with hu | rfl
    · exact h.lt u hu
    · exact hv
  pos := by simp
  head := by rw [vat_left h.pos]; exact h.head
  neg u hu hm := by
    simp at hm
    rw [ix_set, if_neg (fun e => hm.2 e.1)]; exact h.neg u hu hm.1
  src := by
    have : s ≠ v := fun e => hnot (by rw [← e, ← h.head]; exact vat_mem h.pos)
    rw [ix_set, if_neg (fun e => this e.1)]; exact h.src
  bk i h0 h1 := by
    simp at h1
    by_cases e : i = vis.length
    · subst e
      refine ⟨k, hk, ?_, ?_⟩
      · rw [vat_last, vat_left hk, ix_set, if_pos ⟨rfl, by rw [h.blen]; exact hv⟩]
      · rw [vat_last, vat_left hk]; exact hr
    · have hi : i < vis.length := by omega
      obtain ⟨j, hj, e1, e2⟩ := h.bk i h0 hi
      refine ⟨j, hj, ?_, ?_⟩
      · have : vat vis i ≠ v := fun e => hnot (e ▸ vat_mem hi)
        rw [vat_left hi, vat_left (by omega), ix_set, if_neg (fun e => this e.1)]; exact e1
      · rw [vat_left hi, vat_left (by omega)]; exact e2
theorem idx (h : Bfs N r s B vis) {i : Nat} (hi : i < vis.length) : vis.idxOf (vat vis i) = i := by
  rw [vat_eq hi]; exact h.nodup.idxOf_getElem i hi
end Bfs
def bkOf (B : List Int) (v : Nat) : Nat := (ix B v).toNat
namespace Bfs
variable {N s t h v : Nat} {r : Nat → Nat → Int} {B : List Int} {vis : List Nat}
/-- one step back -/
theorem back (h : Bfs N r s B vis) (hv : v ∈ vis) (hs : v ≠ s) : ix B v = (bkOf B v : Int) ∧ bkOf B v ∈ vis ∧ vis.idxOf (bkOf B v) < vis.idxOf v ∧ 0 < r (bkOf B v) v := by
  obtain ⟨i, hi, rfl⟩ := h.at_ hv
  have h0 : 0 < i := by
    by_cases e : i = 0
    · subst e; exact absurd h.head hs
    · omega
  obtain ⟨j, hj, e1, e2⟩ := h.bk i h0 hi
  have e3 : bkOf B (vat vis i) = vat vis j := by unfold bkOf; rw [e1]; simp
  rw [e3]
  exact ⟨e1, vat_mem (by omega), by rw [h.idx (by omega), h.idx hi]; exact hj, e2⟩
theorem chain (h : Bfs N r s B vis) (hv : v ∈ vis) : ∃ l, Chain (bkOf B) s v l ∧ l.Nodup ∧ ∀ w, w ∈ l → w < N ∧ bkOf B w < N ∧ 0 < r (bkOf B w) w ∧ w ∈ vis ∧ w ≠ s := by
  have hd : ∀ v, v ∈ vis → v ≠ s → bkOf B v ∈ vis ∧ vis.idxOf (bkOf B v) < vis.idxOf v := fun v hv hs => ⟨(h.back hv hs).2.1, (h.back hv hs).2.2.1⟩
  obtain ⟨l, hl⟩ := Chain.exist (bk := bkOf B) (s := s) (d := fun v => vis.idxOf v) (V := fun v => v ∈ vis) hd _ v (Nat.le_refl _) hv
  refine ⟨l, hl, Chain.nodup (bk := bkOf B) (s := s) (d := fun v => vis.idxOf v) (V := fun v => v ∈ vis) hd l v hv hl, fun w hw => ?_⟩
  have h1 := Chain.rank (bk := bkOf B) (s := s) (d := fun v => vis.idxOf v) (V := fun v => v ∈ vis) hd l v hv hl w hw
  have h2 := h.back h1.1 h1.2.1
  exact ⟨h.lt w h1.1, h.lt _ h2.2.1, h2.2.2.2, h1.1, h1.2.1⟩
/-- nothing leads out of the nodes reached -/
theorem cert (h : Bfs N r s B vis) (hc : Closed N r vis vis.length) (hn : ∀ u v, u < N → v < N → 0 ≤ r u v) (ht : t < N) (hB : ix B t < 0) :
    ∃ A : Nat → Bool, A s = true ∧ A t = false ∧ ∀ u v, u < N → v < N → A u = true → A v = false → r u v = 0 := by
  refine ⟨fun v => decide (v ∈ vis), decide_eq_true (by rw [← h.head]; exact vat_mem h.pos), decide_eq_false (fun hm => by have := (h.mem_iff ht).1 hm; omega), fun u v hu hv h1 h2 => ?_⟩
  have h1 := of_decide_eq_true h1
  have h2 := of_decide_eq_false h2
  obtain ⟨i, hi, rfl⟩ := h.at_ h1
  have := hn _ v hu hv
  by_cases e : 0 < r (vat vis i) v
  · exact absurd (hc i hi v hv e) h2
  · omega
end Bfs
end Go.Proofs.Ytodnkahnbidgaaa
