/- Slices of tables: how they are read, and the contracts of the laws' own helpers over them. -/
import Derived.Test.YtolmmhdeebgglaaTa
import Derived.Deep.RegionHeld3
namespace Go.Proofs.Ytolmmhdeebgglaa
open Go.RowKit

/-- at ao the tables l are read -/
def TabsA (w : World) (ao : Option Addr) (l : List Ta) : Prop :=
  ∀ k, k < l.length → ∃ b o v1 v2, ao = some ⟨b, o, none⟩ ∧ w.cell? ⟨b, o + k * 4, none⟩ = some (.int .i64 (taAt l k).level) ∧ w.cell? ⟨b, o + k * 4 + 1, none⟩ = some v1 ∧ w.cell? ⟨b, o + k * 4 + 2, none⟩ = some v2 ∧ w.cell? ⟨b, o + k * 4 + 3, none⟩ = some (.int .i64 (taAt l k).sum) ∧
    Ints w v1 (taAt l k).vars ∧ Ints w v2 (taAt l k).cond
def Tabs (w : World) (v : Value) (l : List Ta) : Prop := ∃ ao cap, v = .slice ao l.length cap ∧ l.length ≤ cap ∧ cap ≤ 9223372036854775807 ∧ TabsA w ao l
theorem TabsA.ext {w w' : World} {ao : Option Addr} {l : List Ta} (h : TabsA w ao l) (u : Ext w w') : TabsA w' ao l := by
  intro k hk
  obtain ⟨b, o, v1, v2, rfl, h0, h1, h2, h3, h4, h5⟩ := h k hk
  exact ⟨b, o, v1, v2, rfl, u.cell h0, u.cell h1, u.cell h2, u.cell h3, h4.ext u, h5.ext u⟩
theorem Tabs.ext {w w' : World} {v : Value} {l : List Ta} (h : Tabs w v l) (u : Ext w w') : Tabs w' v l := by
  obtain ⟨ao, cap, rfl, h1, h2, h3⟩ := h
  exact ⟨ao, cap, rfl, h1, h2, h3.ext u⟩
theorem TabsA.at_ {w : World} {ao : Option Addr} {l : List Ta} (h : TabsA w ao l) {k : Nat} (hk : k < l.length) :
    ∃ b o a1 c1 a2 c2, ao = some ⟨b, o, none⟩ ∧ w.cell? ⟨b, o + k * 4, none⟩ = some (.int .i64 (taAt l k).level) ∧ w.cell? ⟨b, o + k * 4 + 1, none⟩ = some (.slice a1 (taAt l k).vars.length c1) ∧ w.cell? ⟨b, o + k * 4 + 2, none⟩ = some (.slice a2 (taAt l k).cond.length c2) ∧
    w.cell? ⟨b, o + k * 4 + 3, none⟩ = some (.int .i64 (taAt l k).sum) ∧ Ints w (.slice a1 (taAt l k).vars.length c1) (taAt l k).vars ∧ Ints w (.slice a2 (taAt l k).cond.length c2) (taAt l k).cond := by
  obtain ⟨b, o, v1, v2, rfl, h0, h1, h2, h3, h4, h5⟩ := h k hk
  have i4 := h4
  have i5 := h5
  obtain ⟨a1, c1, rfl, _⟩ := h4
  obtain ⟨a2, c2, rfl, _⟩ := h5
  exact ⟨b, o, a1, c1, a2, c2, rfl, h0, h1, h2, h3, i4, i5⟩
theorem Tabs.nil (w : World) : Tabs w (.slice none 0 0) [] := ⟨none, 0, rfl, Nat.le_refl _, by omega, fun k hk => by simp at hk⟩
/-- the tables' rows: variables, conditions, variables, .. -/
def rowT (l : List Ta) (i : Nat) : List Int := if i % 2 = 0 then (taAt l (i / 2)).vars else (taAt l (i / 2)).cond
theorem rowT0 (l : List Ta) (k : Nat) : rowT l (2 * k) = (taAt l k).vars := by
  have h1 : 2 * k % 2 = 0 := by omega
  have h2 : 2 * k / 2 = k := by omega
  simp [rowT, h1, h2]
theorem rowT1 (l : List Ta) (k : Nat) : rowT l (2 * k + 1) = (taAt l k).cond := by
  have h1 : (2 * k + 1) % 2 = 1 := by omega
  have h2 : (2 * k + 1) / 2 = k := by omega
  simp [rowT, h1, h2]
/-- the cells of the tables, the slices' values beside -/
def taCell (rvs : List Value) (l : List Ta) (i : Nat) : Value :=
  if i % 4 = 0 then .int .i64 (taAt l (i / 4)).level else if i % 4 = 1 then rvAt rvs (2 * (i / 4)) else if i % 4 = 2 then rvAt rvs (2 * (i / 4) + 1) else .int .i64 (taAt l (i / 4)).sum
theorem taCell0 (rvs : List Value) (l : List Ta) (k : Nat) : taCell rvs l (k * 4) = .int .i64 (taAt l k).level := by simp [taCell]
theorem taCell1 (rvs : List Value) (l : List Ta) (k : Nat) : taCell rvs l (k * 4 + 1) = rvAt rvs (2 * k) := by
  have h1 : (k * 4 + 1) % 4 = 1 := by omega
  have h2 : (k * 4 + 1) / 4 = k := by omega
  simp [taCell, h1, h2]
theorem taCell2 (rvs : List Value) (l : List Ta) (k : Nat) : taCell rvs l (k * 4 + 2) = rvAt rvs (2 * k + 1) := by
  have h1 : (k * 4 + 2) % 4 = 2 := by omega
  have h2 : (k * 4 + 2) / 4 = k := by omega
  simp [taCell, h1, h2]
theorem taCell3 (rvs : List Value) (l : List Ta) (k : Nat) : taCell rvs l (k * 4 + 3) = .int .i64 (taAt l k).sum := by
  have h1 : (k * 4 + 3) % 4 = 3 := by omega
  have h2 : (k * 4 + 3) / 4 = k := by omega
  simp [taCell, h1, h2]
/-- tables at ao in a block of their own of type T, each row in a block of its own -/
structure OwnTA (T lo hi : Nat) (w : World) (ao : Option Addr) (rvs : List Value) (l : List Ta) : Prop where
  spine : OwnC T lo hi w ao (l.length * 4) (taCell rvs l)
  row : ∀ i, i < 2 * l.length → Own lo hi w (rvAt rvs i) (rowT l i)
  diff : ∀ i j, i < 2 * l.length → j < 2 * l.length → i ≠ j → rowT l i ≠ [] → rowT l j ≠ [] → blk (rvAt rvs i) ≠ blk (rvAt rvs j)
def OwnT (T lo hi : Nat) (w : World) (v : Value) (rvs : List Value) (l : List Ta) : Prop :=
  ∃ ao cap, v = .slice ao l.length cap ∧ l.length ≤ cap ∧ cap ≤ 9223372036854775807 ∧ OwnTA T lo hi w ao rvs l
def TB (v : Value) (rvs : List Value) (l : List Ta) (b : Nat) : Prop := (l ≠ [] ∧ b = blk v) ∨ ∃ i, i < 2 * l.length ∧ rowT l i ≠ [] ∧ b = blk (rvAt rvs i)
namespace OwnTA
variable {T lo hi lo' hi' : Nat} {S : Nat → Prop} {w w' : World} {ao : Option Addr} {rvs : List Value} {l : List Ta}
theorem read (h : OwnTA T lo hi w ao rvs l) : TabsA w ao l := by
  intro k hk
  obtain ⟨b, o, rfl, _, _, _, hc, _⟩ := h.spine.at_ (i := k * 4) (by omega)
  have h0 := hc (k * 4) (by omega)
  have h1 := hc (k * 4 + 1) (by omega)
  have h2 := hc (k * 4 + 2) (by omega)
  have h3 := hc (k * 4 + 3) (by omega)
  rw [taCell0] at h0
  rw [taCell1, ← Nat.add_assoc] at h1
  rw [taCell2, ← Nat.add_assoc] at h2
  rw [taCell3, ← Nat.add_assoc] at h3
  have r1 := (h.row (2 * k) (by omega)).ints
  have r2 := (h.row (2 * k + 1) (by omega)).ints
  rw [rowT0] at r1
  rw [rowT1] at r2
  exact ⟨b, o, _, _, rfl, h0, h1, h2, h3, r1, r2⟩
theorem upd (h : OwnTA T lo hi w ao rvs l) (u : Upd S w w') (hs : l ≠ [] → ¬ S (ablk ao)) (hr : ∀ i, i < 2 * l.length → rowT l i ≠ [] → ¬ S (blk (rvAt rvs i))) : OwnTA T lo hi w' ao rvs l :=
  ⟨h.spine.upd u (fun hn => hs (by intro e; subst e; simp at hn)), fun i hi => (h.row i hi).upd u (hr i hi), h.diff⟩
theorem ext (h : OwnTA T lo hi w ao rvs l) (u : Ext w w') : OwnTA T lo hi w' ao rvs l := h.upd u (fun _ s => s) (fun _ _ _ s => s)
theorem mono (h : OwnTA T lo hi w ao rvs l) (h1 : lo' ≤ lo) (h2 : hi ≤ hi') : OwnTA T lo' hi' w ao rvs l :=
  ⟨h.spine.mono h1 h2, fun i hi => (h.row i hi).mono h1 h2, h.diff⟩
end OwnTA
namespace OwnT
variable {T lo hi lo' hi' : Nat} {S : Nat → Prop} {w w' : World} {v : Value} {rvs : List Value} {l : List Ta}
theorem read (h : OwnT T lo hi w v rvs l) : Tabs w v l := by
  obtain ⟨ao, cap, rfl, h1, h2, h3⟩ := h
  exact ⟨ao, cap, rfl, h1, h2, h3.read⟩
theorem upd (h : OwnT T lo hi w v rvs l) (u : Upd S w w') (hs : l ≠ [] → ¬ S (blk v)) (hr : ∀ i, i < 2 * l.length → rowT l i ≠ [] → ¬ S (blk (rvAt rvs i))) : OwnT T lo hi w' v rvs l := by
  obtain ⟨ao, cap, rfl, h1, h2, h3⟩ := h
  exact ⟨ao, cap, rfl, h1, h2, h3.upd u hs hr⟩
theorem ext (h : OwnT T lo hi w v rvs l) (u : Ext w w') : OwnT T lo hi w' v rvs l := h.upd u (fun _ s => s) (fun _ _ _ s => s)
theorem mono (h : OwnT T lo hi w v rvs l) (h1 : lo' ≤ lo) (h2 : hi ≤ hi') : OwnT T lo' hi' w v rvs l := by
  obtain ⟨ao, cap, rfl, e1, e2, h3⟩ := h
  exact ⟨ao, cap, rfl, e1, e2, h3.mono h1 h2⟩
theorem inside (h : OwnT T lo hi w v rvs l) {b : Nat} (hb : TB v rvs l b) : lo ≤ b ∧ b < hi ∧ b < w.heap.size := by
  obtain ⟨ao, cap, rfl, e1, e2, h3⟩ := h
  rcases hb with ⟨h1, rfl⟩ | ⟨i, hi', hr, rfl⟩
  · exact h3.spine.range (by intro e; exact h1 (List.eq_nil_of_length_eq_zero (by omega)))
  · exact (h3.row i hi').range hr
theorem away (h : OwnT T lo hi w v rvs l) (u : Upd S w w') (hs : ∀ b, S b → b < lo ∨ hi ≤ b) : OwnT T lo hi w' v rvs l :=
  h.upd u (fun hx s => by have := hs _ s; have := h.inside (.inl ⟨hx, rfl⟩); omega) (fun i hi hr s => by have := hs _ s; have := h.inside (.inr ⟨i, hi, hr, rfl⟩); omega)
end OwnT
/-- how many marks the first k tables take -/
def tz (l : List Ta) (k : Nat) : Nat := ((l.take k).map fun r => r.vars.length + r.cond.length + 2).sum
theorem tz_zero (l : List Ta) : tz l 0 = 0 := by simp [tz]
theorem tz_succ {l : List Ta} {k : Nat} (h : k < l.length) : tz l (k + 1) = tz l k + ((taAt l k).vars.length + (taAt l k).cond.length + 2) := by
  simp [tz, take_succ_ta h]
theorem sum_take_leT (xs : List Nat) (k : Nat) : (xs.take k).sum ≤ xs.sum := by
  have e : (xs.take k).sum + (xs.drop k).sum = xs.sum := by rw [← List.sum_append, List.take_append_drop]
  omega
theorem tz_le (l : List Ta) (k : Nat) : tz l k ≤ tz l l.length := by
  have h := sum_take_leT (l.map fun r => r.vars.length + r.cond.length + 2) k
  have e : l.take l.length = l := List.take_of_length_le (Nat.le_refl _)
  unfold tz
  rw [e, List.map_take]
  exact h
def TabSmall (l : List Ta) : Prop := l.length ≤ 1048576 ∧ (∀ k, k < l.length → TaSmall (taAt l k)) ∧ tz l l.length ≤ 2097152
/-- the tables' shape, whatever the numbers -/
structure MarkT (T lo hi : Nat) (w : World) (ao : Option Addr) (rvs : List Value) (l : List Ta) : Prop where
  spine : ∃ f, OwnC T lo hi w ao (l.length * 4) f ∧ ∀ k, k < l.length → f (k * 4 + 1) = rvAt rvs (2 * k) ∧ f (k * 4 + 2) = rvAt rvs (2 * k + 1) ∧ (∃ a : Int, f (k * 4) = .int .i64 a) ∧ (∃ a : Int, f (k * 4 + 3) = .int .i64 a)
  row : ∀ i, i < 2 * l.length → ∃ ys, ys.length = (rowT l i).length ∧ Own lo hi w (rvAt rvs i) ys
  diff : ∀ i j, i < 2 * l.length → j < 2 * l.length → i ≠ j → rowT l i ≠ [] → rowT l j ≠ [] → blk (rvAt rvs i) ≠ blk (rvAt rvs j)
theorem OwnTA.mark {T lo hi : Nat} {w : World} {ao : Option Addr} {rvs : List Value} {l : List Ta} (h : OwnTA T lo hi w ao rvs l) : MarkT T lo hi w ao rvs l :=
  ⟨⟨_, h.spine, fun _ _ => ⟨taCell1 _ _ _, taCell2 _ _ _, ⟨_, taCell0 _ _ _⟩, ⟨_, taCell3 _ _ _⟩⟩⟩, fun i hi => ⟨_, rfl, h.row i hi⟩, h.diff⟩
namespace MarkT
variable {T lo hi : Nat} {w w' : World} {ao : Option Addr} {rvs : List Value} {l : List Ta}
theorem apart (h : MarkT T lo hi w ao rvs l) (hT : T ≠ 3) {i : Nat} (hi' : i < 2 * l.length) (hr : rowT l i ≠ []) : blk (rvAt rvs i) ≠ ablk ao := by
  obtain ⟨f, h1, _⟩ := h.spine
  obtain ⟨ys, h2, h3⟩ := h.row i hi'
  exact h1.ne_own hT h3 (by omega) (fun e => hr (List.eq_nil_of_length_eq_zero (by rw [← h2, e]; rfl)))
theorem at_ (h : MarkT T lo hi w ao rvs l) {k : Nat} (hk : k < l.length) : ∃ (b o : Nat) (A B : Int), ao = some ⟨b, o, none⟩ ∧ w.cell? ⟨b, o + k * 4, none⟩ = some (.int .i64 A) ∧ w.cell? ⟨b, o + k * 4 + 1, none⟩ = some (rvAt rvs (2 * k)) ∧ w.cell? ⟨b, o + k * 4 + 2, none⟩ = some (rvAt rvs (2 * k + 1)) ∧
    w.cell? ⟨b, o + k * 4 + 3, none⟩ = some (.int .i64 B) ∧ w.frozen? ⟨b, o + k * 4, none⟩ = false ∧ w.frozen? ⟨b, o + k * 4 + 3, none⟩ = false := by
  obtain ⟨f, h1, hf⟩ := h.spine
  obtain ⟨b, o, rfl, _, _, _, hc, hz⟩ := h1.at_ (i := k * 4) (by omega)
  obtain ⟨f1, f2, ⟨A, f0⟩, ⟨B, f3⟩⟩ := hf k hk
  have h0 := hc (k * 4) (by omega)
  have h1 := hc (k * 4 + 1) (by omega)
  have h2 := hc (k * 4 + 2) (by omega)
  have h3 := hc (k * 4 + 3) (by omega)
  rw [f0] at h0
  rw [f1, ← Nat.add_assoc] at h1
  rw [f2, ← Nat.add_assoc] at h2
  rw [f3, ← Nat.add_assoc] at h3
  exact ⟨b, o, A, B, rfl, h0, h1, h2, h3, hz _, by have := hz (k * 4 + 3); rwa [← Nat.add_assoc] at this⟩
/-- a number of a table is stored anew -/
theorem put {b o : Nat} (h : MarkT T lo hi w (some ⟨b, o, none⟩) rvs l) (hT : T ≠ 3) {k d : Nat} (hk : k < l.length) (hd : d = 0 ∨ d = 3) (A : Int) : MarkT T lo hi (w.setCell ⟨b, o + (k * 4 + d), none⟩ (.int .i64 A)) (some ⟨b, o, none⟩) rvs l := by
  have hap : ∀ i, i < 2 * l.length → rowT l i ≠ [] → blk (rvAt rvs i) ≠ b := fun i hi' hr => h.apart hT hi' hr
  obtain ⟨f, h1, hf⟩ := h.spine
  refine ⟨⟨_, h1.set (i := k * 4 + d) (by omega) (.int .i64 A), fun j hj => ?_⟩, fun i hi' => ?_, h.diff⟩
  · obtain ⟨f1, f2, f0, f3⟩ := hf j hj
    refine ⟨by rw [if_neg (by omega)]; exact f1, by rw [if_neg (by omega)]; exact f2, ?_, ?_⟩
    · split
      · exact ⟨A, rfl⟩
      · exact f0
    · split
      · exact ⟨A, rfl⟩
      · exact f3
  · obtain ⟨ys, e, ho⟩ := h.row i hi'
    exact ⟨ys, e, ho.upd ((Upd.refl (S := fun c => c = b) w).setCell (a := ⟨b, o + (k * 4 + d), none⟩) (.int .i64 A) (fun _ => rfl)) (fun hy hb => hap i hi' (fun e2 => hy (List.eq_nil_of_length_eq_zero (by rw [e, e2]; rfl))) hb)⟩
/-- a row is written anew -/
theorem putRow (h : MarkT T lo hi w ao rvs l) (hT : T ≠ 3) {i : Nat} (hi' : i < 2 * l.length) {ys : List Int} (hl : ys.length = (rowT l i).length) (hrow : Own lo hi w' (rvAt rvs i) ys)
    (u : Upd (fun b => rowT l i ≠ [] ∧ b = blk (rvAt rvs i)) w w') : MarkT T lo hi w' ao rvs l := by
  obtain ⟨f, h1, hf⟩ := h.spine
  refine ⟨⟨f, h1.upd u (fun _ s => h.apart hT hi' s.1 s.2.symm), hf⟩, fun j hj => ?_, h.diff⟩
  by_cases e : j = i
  · subst e; exact ⟨ys, hl, hrow⟩
  · obtain ⟨zs, e2, ho⟩ := h.row j hj
    exact ⟨zs, e2, ho.upd u (fun hz s => h.diff j i hj hi' e (fun e3 => hz (List.eq_nil_of_length_eq_zero (by rw [e2, e3]; rfl))) s.1 s.2)⟩
end MarkT

set_option maxHeartbeats 800000 in
theorem szTableS_c (v : Value) (s : List Ta) (left : Int) (w : World) (h : Tabs w v s) (h0 : 0 ≤ left ∧ left ≤ 1048576) :
    Calls Try.prog 8 #[v, .int .i64 left] w fun e w' => ∃ r, e = .returned (.int .i64 r) ∧ (r < 0 ∨ (0 ≤ r ∧ r ≤ left ∧ TabSmall s)) ∧ Ext w w' := by
  obtain ⟨ao, cap, rfl, h1, h2, h3⟩ := h
  have G := Lib.hid h3; clear h3
  have h9 : (s.length : Int) ≤ 9223372036854775807 := by omega
  by_cases hb : left - (s.length : Int) < 0
  · go_enter Try.func8, Try.ntmps8
    go_wp2
    all_goals go_ret
    all_goals exact ⟨_, rfl, .inl (by omega), Ext.refl w⟩
  · have hl8 : s.length ≤ 1048576 := by omega
    have HB := Lib.hid hb; clear hb
    go_enter Try.func8, Try.ntmps8
    go_wp2
    go_loopw [1, 5] (fun t i wr => ∃ (k : Nat) (l : Int), k ≤ s.length ∧ i = .int .i64 k ∧ t = .int .i64 l ∧ 0 ≤ l ∧ l ≤ left ∧ l + tz s k = left - s.length + 2 * k ∧ (∀ j, j < k → TaSmall (taAt s j)) ∧ Ext w wr) (fun _ i _ => s.length - (intOf i).toNat)
    case atStart => exact ⟨0, left - s.length, Nat.zero_le _, rfl, rfl, by have := HB.out; omega, by omega, by simp [tz_zero], (fun j hj => by omega), Ext.refl w⟩
    case round =>
      obtain ⟨k, l, hk, rfl, rfl, hl0, hl1, hq, hj, hx⟩ := hrel
      have HJ := Lib.hid hj; clear hj
      have HQ := Lib.hid hq; clear hq
      by_cases hlt : k < s.length
      · obtain ⟨b, o, a1, c1, a2, c2, rfl, hc0, hc1, hc2, hc3, i1, i2⟩ := (G.out.ext hx).at_ hlt
        have HI := Lib.hid (And.intro i1 i2); clear i1 i2
        have HPS := Lib.hid (tz_succ hlt)
        go_wp2_with fail
        refine (szTable_c _ (taAt s k) l _ ⟨_, _, rfl, HI.out.1, HI.out.2⟩ (by omega)).mono ?_
        rintro e w1 ⟨r, rfl, hr, u1⟩
        rcases hr with hr | ⟨hr0, hr1, hr2⟩
        · go_wp2
          go_ret
          exact ⟨_, rfl, .inl (by omega), hx.trans u1⟩
        · have hn : ¬ (r < 0) := by omega
          have HR := Lib.hid (And.intro hr1 hr2); clear hr1 hr2
          have HJ2 : Hid (∀ j, j < k + 1 → TaSmall (taAt s j)) := Lib.hid (fun j hj => by
            by_cases e : j = k
            · subst e; exact HR.out.2
            · exact HJ.out j (by omega))
          go_wp2
          go_roundw
          case rel => exact ⟨k + 1, r, by omega, by go_num, rfl, hr0, by have := HR.out.1; unfold TaSize at this; omega, by rw [HPS.out]; have := HQ.out; have h3 := HR.out.1; unfold TaSize at h3; omega, HJ2.out, hx.trans u1⟩
          case measure => simp [intOf]; omega
      · have hkl : k = s.length := by omega
        have HK := Lib.hid hkl; clear hkl
        go_wp2
        go_ret
        exact ⟨_, rfl, .inr ⟨hl0, hl1, hl8, fun j hj => HJ.out j (by have := HK.out; omega), by have h1 := HQ.out; rw [HK.out] at h1; omega⟩, hx⟩
theorem info_table : (Try.prog.info? 56).map (fun i => (i.zero, i.size, i.bytes)) = some (some (.agg #[.int .i64 0, .slice none 0 0, .slice none 0 0, .int .i64 0]), 4, 64) := by kernel_rfl
/-- a block of another type lies elsewhere -/
theorem Own.ne_rowTa {lo hi g n T : Nat} {f : Nat → Value} {w : World} {v : Value} {xs : List Int} (h : Own lo hi w v xs) (hr : w.rowIs g T n f) (hT : T ≠ 3) (hx : xs ≠ []) : blk v ≠ g := by
  obtain ⟨ao, cap, rfl, _, _, h3⟩ := h
  rcases h3 with h3 | ⟨g', o', c', rfl, _, _, hg', _⟩
  · exact absurd h3 hx
  · obtain ⟨c, hc, _, _⟩ := hr
    simp only [blk, ablk]
    intro e; subst e; rw [hc] at hg'; simp at hg'; exact hT hg'.2
set_option maxHeartbeats 1600000 in
theorem toTableS_c (v : Value) (s : List Ta) (w : World) (h : Tabs w v s) (hs : TabSmall s) :
    Calls Try.prog 12 #[v] w fun e w' => ∃ v' rvs, e = .returned v' ∧ OwnT 56 w.heap.size w'.heap.size w' v' rvs s ∧ Ext w w' := by
  obtain ⟨ao, cap, rfl, h1, h2, h3⟩ := h
  have G := Lib.hid h3; clear h3
  obtain ⟨hl, hv, _⟩ := hs
  have HV := Lib.hid hv; clear hv
  have hmk := run_make_wide (P := Try.prog) 37 56 (.agg #[.int .i64 0, .slice none 0 0, .slice none 0 0, .int .i64 0]) 4 64 Try.underlying37 info_table .i64 .i64 s.length (by omega) (by omega)
  have hst := rowIs_made_wide w (Value.agg #[.int .i64 0, .slice none 0 0, .slice none 0 0, .int .i64 0]).cells (s.length * 4) 56
  obtain ⟨Z, hZ⟩ : ∃ Z, (Value.agg #[.int .i64 0, .slice none 0 0, .slice none 0 0, .int .i64 0]).cells = Z := ⟨_, rfl⟩
  rw [hZ] at hst
  simp only [hZ] at hmk
  clear hZ
  obtain ⟨f0, hf0⟩ : ∃ f : Nat → Value, (fun i => Z[i % Z.size]!) = f := ⟨_, rfl⟩
  rw [hf0] at hst
  clear hf0
  have HST := Lib.hid hst; clear hst
  go_enter Try.func12, Try.ntmps12
  go_wp2
  go_loopw [4] (fun i wr => ∃ (k : Nat) (rvs : List Value), k ≤ s.length ∧ i = .int .i64 k ∧ rvs.length = 2 * k ∧ wr.rowIs w.heap.size 56 (s.length * 4) (fun j => if j < k * 4 then taCell rvs s j else f0 j) ∧
    (∀ j, j < 2 * k → Own w.heap.size wr.heap.size wr (rvAt rvs j) (rowT s j)) ∧
    (∀ i j, i < 2 * k → j < 2 * k → i ≠ j → rowT s i ≠ [] → rowT s j ≠ [] → blk (rvAt rvs i) ≠ blk (rvAt rvs j)) ∧ Ext w wr) (fun i _ => s.length - (intOf i).toNat)
  case atStart => exact ⟨0, [], Nat.zero_le _, rfl, rfl, HST.out.congr (fun j _ => by simp), fun j hj => by omega, fun i j hi => by omega, (Ext.refl _).alloc _⟩
  case round =>
    clear HST
    obtain ⟨k, rvs, hk, rfl, hn, hrow, hown, hd, hx⟩ := hrel
    have HR := Lib.hid hrow; clear hrow
    have HO := Lib.hid hown; clear hown
    have HD := Lib.hid hd; clear hd
    have HN := Lib.hid hn; clear hn
    by_cases hlt : k < s.length
    · obtain ⟨b, o, a1, c1, a2, c2, rfl, hc0, hc1, hc2, hc3, i1, i2⟩ := (G.out.ext hx).at_ hlt
      have HI := Lib.hid (And.intro i1 i2); clear i1 i2
      go_wp2_with fail
      refine (toTable_c _ (taAt s k) _ ⟨_, _, rfl, HI.out.1, HI.out.2⟩ (HV.out k hlt)).mono ?_
      rintro e w1 ⟨v9, rfl, ⟨x1, x2, rfl, o1, o2, od⟩, u1⟩
      have HO1 := Lib.hid o1
      have HO2 := Lib.hid o2
      have HOD := Lib.hid od; clear od
      obtain ⟨a3, c3, rfl, _, _, q3⟩ := o1
      obtain ⟨a4, c4, rfl, _, _, q4⟩ := o2
      clear q3 q4
      have hrow1 := rowIs_ext HR.out u1
      have hfr0 := hrow1.frozen (k * 4)
      have hfr1 := hrow1.frozen (k * 4 + 1)
      have hfr2 := hrow1.frozen (k * 4 + 2)
      have hfr3 := hrow1.frozen (k * 4 + 3)
      have hcell0 := hrow1.cell (i := k * 4) (by omega)
      have hcell1 := hrow1.cell (i := k * 4 + 1) (by omega)
      have hcell2 := hrow1.cell (i := k * 4 + 2) (by omega)
      have hcell3 := hrow1.cell (i := k * 4 + 3) (by omega)
      have HR1 := Lib.hid hrow1; clear hrow1
      obtain ⟨A, hA⟩ : ∃ A, (taAt s k).level = A := ⟨_, rfl⟩
      obtain ⟨B, hB⟩ : ∃ B, (taAt s k).sum = B := ⟨_, rfl⟩
      rw [hA, hB]
      have HAB := Lib.hid (And.intro hA hB); clear hA hB hc0 hc3
      go_wp2
      go_roundw
      case rel =>
        obtain ⟨X1, hX1⟩ : ∃ X, Value.slice a3 (taAt s k).vars.length c3 = X := ⟨_, rfl⟩
        obtain ⟨X2, hX2⟩ : ∃ X, Value.slice a4 (taAt s k).cond.length c4 = X := ⟨_, rfl⟩
        rw [hX1] at HO1 HOD ⊢
        rw [hX2] at HO2 HOD ⊢
        have hsz : ((((w1.setCell ⟨w.heap.size, k * 4, none⟩ (.int .i64 A)).setCell ⟨w.heap.size, k * 4 + 1, none⟩ X1).setCell ⟨w.heap.size, k * 4 + 2, none⟩ X2).setCell ⟨w.heap.size, k * 4 + 3, none⟩ (.int .i64 B)).heap.size = w1.heap.size := by simp [World.setCell]
        have hu : Upd (fun c => c = w.heap.size) w1 ((((w1.setCell ⟨w.heap.size, k * 4, none⟩ (.int .i64 A)).setCell ⟨w.heap.size, k * 4 + 1, none⟩ X1).setCell ⟨w.heap.size, k * 4 + 2, none⟩ X2).setCell ⟨w.heap.size, k * 4 + 3, none⟩ (.int .i64 B)) :=
          ((((Upd.refl (S := fun c => c = w.heap.size) w1).setCell (a := ⟨w.heap.size, k * 4, none⟩) _ (fun _ => rfl)).setCell (a := ⟨w.heap.size, k * 4 + 1, none⟩) _ (fun _ => rfl)).setCell (a := ⟨w.heap.size, k * 4 + 2, none⟩) _ (fun _ => rfl)).setCell (a := ⟨w.heap.size, k * 4 + 3, none⟩) _ (fun _ => rfl)
        have hold : ∀ j, j < 2 * k → rvAt (rvs ++ [X1, X2]) j = rvAt rvs j := fun j hj => rvAt_append_left (by rw [HN.out]; exact hj)
        have hnew1 : rvAt (rvs ++ [X1, X2]) (2 * k) = X1 := by simp [rvAt, List.getD, ← HN.out]
        have hnew2 : rvAt (rvs ++ [X1, X2]) (2 * k + 1) = X2 := by
          have : 2 * k + 1 = rvs.length + 1 := by rw [HN.out]
          rw [this]; simp [rvAt, List.getD]
        have hO1 : Own w.heap.size w1.heap.size ((((w1.setCell ⟨w.heap.size, k * 4, none⟩ (.int .i64 A)).setCell ⟨w.heap.size, k * 4 + 1, none⟩ X1).setCell ⟨w.heap.size, k * 4 + 2, none⟩ X2).setCell ⟨w.heap.size, k * 4 + 3, none⟩ (.int .i64 B)) X1 (taAt s k).vars :=
          (HO1.out.upd hu (fun hne => HO1.out.ne_rowTa HR1.out (by decide) hne)).mono hx.size (Nat.le_refl _)
        have hO2 : Own w.heap.size w1.heap.size ((((w1.setCell ⟨w.heap.size, k * 4, none⟩ (.int .i64 A)).setCell ⟨w.heap.size, k * 4 + 1, none⟩ X1).setCell ⟨w.heap.size, k * 4 + 2, none⟩ X2).setCell ⟨w.heap.size, k * 4 + 3, none⟩ (.int .i64 B)) X2 (taAt s k).cond :=
          (HO2.out.upd hu (fun hne => HO2.out.ne_rowTa HR1.out (by decide) hne)).mono hx.size (Nat.le_refl _)
        have hrg : ∀ j, j < 2 * k → rowT s j ≠ [] → blk (rvAt rvs j) < wr.heap.size := fun j hj hr => ((HO.out j hj).range hr).2.1
        have hg1 : (taAt s k).vars ≠ [] → wr.heap.size ≤ blk X1 := fun h => (HO1.out.range h).1
        have hg2 : (taAt s k).cond ≠ [] → wr.heap.size ≤ blk X2 := fun h => (HO2.out.range h).1
        refine ⟨k + 1, rvs ++ [X1, X2], by omega, by go_num, by simp [HN.out]; omega, ((((HR1.out.set (k * 4) _).set (k * 4 + 1) _).set (k * 4 + 2) _).set (k * 4 + 3) _).congr (fun j hj => ?_), fun j hj => ?_, fun i j hi hj hij hri hrj => ?_, ((((hx.trans u1).setCell _ (Nat.le_refl _)).setCell _ (Nat.le_refl _)).setCell _ (Nat.le_refl _)).setCell _ (Nat.le_refl _)⟩
        · by_cases e3 : j = k * 4 + 3
          · subst e3; rw [if_pos rfl, if_pos (by omega), taCell3, HAB.out.2]
          · rw [if_neg e3]
            by_cases e2 : j = k * 4 + 2
            · subst e2; rw [if_pos rfl, if_pos (by omega), taCell2, hnew2]
            · rw [if_neg e2]
              by_cases e1 : j = k * 4 + 1
              · subst e1; rw [if_pos rfl, if_pos (by omega), taCell1, hnew1]
              · rw [if_neg e1]
                by_cases e0 : j = k * 4
                · subst e0; rw [if_pos rfl, if_pos (by omega), taCell0, HAB.out.1]
                · rw [if_neg e0]
                  by_cases e : j < k * 4
                  · rw [if_pos e, if_pos (by omega)]
                    simp only [taCell, hold (2 * (j / 4)) (by omega), hold (2 * (j / 4) + 1) (by omega)]
                  · rw [if_neg e, if_neg (by omega)]
        · rw [hsz]
          by_cases e1 : j = 2 * k
          · subst e1; rw [hnew1, rowT0]; exact hO1
          · by_cases e2 : j = 2 * k + 1
            · subst e2; rw [hnew2, rowT1]; exact hO2
            · have hj' : j < 2 * k := by omega
              rw [hold j hj']
              have h1 := (HO.out j hj').ext u1
              exact (h1.upd hu (fun hne => h1.ne_rowTa HR1.out (by decide) hne)).mono (Nat.le_refl _) u1.size
        · have case1 : ∀ i, i < 2 * k → rowT s i ≠ [] → ((taAt s k).vars ≠ [] → blk (rvAt (rvs ++ [X1, X2]) i) ≠ blk X1) ∧ ((taAt s k).cond ≠ [] → blk (rvAt (rvs ++ [X1, X2]) i) ≠ blk X2) := fun i hi hr => by
            rw [hold i hi]
            have := hrg i hi hr
            exact ⟨fun h => by have := hg1 h; omega, fun h => by have := hg2 h; omega⟩
          by_cases ei : i < 2 * k
          · by_cases ej : j < 2 * k
            · rw [hold i ei, hold j ej]; exact HD.out i j ei ej hij hri hrj
            · by_cases e1 : j = 2 * k
              · subst e1; rw [hnew1]; exact (case1 i ei hri).1 (by rw [← rowT0]; exact hrj)
              · have e2 : j = 2 * k + 1 := by omega
                subst e2; rw [hnew2]; exact (case1 i ei hri).2 (by rw [← rowT1]; exact hrj)
          · by_cases ej : j < 2 * k
            · by_cases e1 : i = 2 * k
              · subst e1; rw [hnew1]; exact ((case1 j ej hrj).1 (by rw [← rowT0]; exact hri)).symm
              · have e2 : i = 2 * k + 1 := by omega
                subst e2; rw [hnew2]; exact ((case1 j ej hrj).2 (by rw [← rowT1]; exact hri)).symm
            · by_cases e1 : i = 2 * k
              · have e2 : j = 2 * k + 1 := by omega
                subst e1; subst e2
                rw [hnew1, hnew2]
                rw [rowT0] at hri
                rw [rowT1] at hrj
                exact HOD.out hri hrj
              · have e3 : i = 2 * k + 1 := by omega
                have e2 : j = 2 * k := by omega
                subst e3; subst e2
                rw [hnew1, hnew2]
                rw [rowT1] at hri
                rw [rowT0] at hrj
                exact (HOD.out hrj hri).symm
      case measure => simp [intOf]; omega
    · have hkl : k = s.length := by omega
      have HK := Lib.hid hkl; clear hkl
      go_wp2
      go_ret
      refine ⟨_, rvs, rfl, ⟨some ⟨w.heap.size, 0, none⟩, s.length, rfl, Nat.le_refl _, by omega, ?_, fun j hj => HO.out j (by rw [HK.out]; exact hj), fun i j hi hj => HD.out i j (by rw [HK.out]; exact hi) (by rw [HK.out]; exact hj)⟩, hx⟩
      exact OwnC.of_rowIs (HR.out.congr (fun j hj => by rw [if_pos (by have := HK.out; omega)])) (Nat.le_refl _) HR.out.lt
set_option maxHeartbeats 800000 in
theorem eqTableS_t (v1 v2 : Value) (s : List Ta) (w : World) (h1 : Tabs w v1 s) (h2 : Tabs w v2 s) :
    Calls Try.prog 17 #[v1, v2] w fun e w' => e = .returned (.bool true) ∧ Ext w w' := by
  obtain ⟨a1, c1, rfl, e1, e2, g1⟩ := h1
  obtain ⟨a2, c2, rfl, e3, e4, g2⟩ := h2
  have G1 := Lib.hid g1; clear g1
  have G2 := Lib.hid g2; clear g2
  have hl1 : s.length ≤ 9223372036854775807 := by omega
  have hb : ((s.length : Int) != (s.length : Int)) = false := by simp
  go_enter Try.func17, Try.ntmps17
  go_wp2
  go_loopw [5] (fun i wr => ∃ k : Nat, k ≤ s.length ∧ i = .int .i64 k ∧ Ext w wr) (fun i _ => s.length - (intOf i).toNat)
  case atStart => exact ⟨0, Nat.zero_le _, rfl, Ext.refl _⟩
  case round =>
    obtain ⟨k, hk, rfl, hx⟩ := hrel
    obtain ⟨wo, rfl⟩ : ∃ wo : World, wo = wr := ⟨_, rfl⟩
    by_cases hlt : k < s.length
    · obtain ⟨b1, o1, ar1, cr1, as1, cs1, rfl, d0, d1, d2, d3, p1, p2⟩ := (G1.out.ext hx).at_ hlt
      obtain ⟨b2, o2, ar2, cr2, as2, cs2, rfl, f0, f1, f2, f3, q1, q2⟩ := (G2.out.ext hx).at_ hlt
      have P3 := Lib.hid (show TaR wo (.agg #[.int .i64 (taAt s k).level, .slice ar1 (taAt s k).vars.length cr1, .slice as1 (taAt s k).cond.length cs1, .int .i64 (taAt s k).sum]) (taAt s k) from ⟨_, _, rfl, p1, p2⟩); clear p1 p2
      have Q3 := Lib.hid (show TaR wo (.agg #[.int .i64 (taAt s k).level, .slice ar2 (taAt s k).vars.length cr2, .slice as2 (taAt s k).cond.length cs2, .int .i64 (taAt s k).sum]) (taAt s k) from ⟨_, _, rfl, q1, q2⟩); clear q1 q2
      obtain ⟨A, hA⟩ : ∃ A, (taAt s k).level = A := ⟨_, rfl⟩
      obtain ⟨B, hB⟩ : ∃ B, (taAt s k).sum = B := ⟨_, rfl⟩
      obtain ⟨n, hn⟩ : ∃ n, (taAt s k).vars.length = n := ⟨_, rfl⟩
      obtain ⟨m, hm⟩ : ∃ m, (taAt s k).cond.length = m := ⟨_, rfl⟩
      rw [hA] at d0 f0 P3 Q3
      rw [hB] at d3 f3 P3 Q3
      rw [hn] at d1 f1 P3 Q3
      rw [hm] at d2 f2 P3 Q3
      clear hA hB hn hm
      have hk0 : (0 : Int) ≤ (k : Int) := by omega
      have hk1 : (k : Int) < (s.length : Int) := by omega
      go_wp2_with fail
      go_region_held3 (fun w' => w'.cell? ⟨b1, o1 + k * 4, none⟩ = some (.int .i64 A) ∧ w'.cell? ⟨b1, o1 + k * 4 + 1, none⟩ = some (.slice ar1 n cr1) ∧ w'.cell? ⟨b1, o1 + k * 4 + 2, none⟩ = some (.slice as1 m cs1) ∧ w'.cell? ⟨b1, o1 + k * 4 + 3, none⟩ = some (.int .i64 B) ∧ w'.cell? ⟨b2, o2 + k * 4, none⟩ = some (.int .i64 A) ∧ w'.cell? ⟨b2, o2 + k * 4 + 1, none⟩ = some (.slice ar2 n cr2) ∧ w'.cell? ⟨b2, o2 + k * 4 + 2, none⟩ = some (.slice as2 m cs2) ∧ w'.cell? ⟨b2, o2 + k * 4 + 3, none⟩ = some (.int .i64 B))
        (first | exact ⟨Ext.cell u1 d0, Ext.cell u1 d1, Ext.cell u1 d2, Ext.cell u1 d3, Ext.cell u1 f0, Ext.cell u1 f1, Ext.cell u1 f2, Ext.cell u1 f3⟩ | go_keep)
        ((first | (go_at_call 33; refine (eqTable_t _ _ (taAt s k) _ (P3.out.ext (Ext.refl _).drew) (Q3.out.ext (Ext.refl _).drew)).mono ?_; rintro e w1 ⟨rfl, u1⟩)))
      go_wp2
      go_roundw
      case rel => exact ⟨k + 1, by omega, by go_num, (hx.drew).trans u1⟩
      case measure => simp [intOf]; omega
    · go_wp2
      go_ret
      exact ⟨rfl, hx⟩
set_option maxHeartbeats 3200000 in
theorem markTableS_c (T lo hi : Nat) (hT : T ≠ 3) (v : Value) (rvs : List Value) (s : List Ta) (k0 : Int) (w : World) (h : OwnT T lo hi w v rvs s) (hs : TabSmall s) (hk0 : 0 ≤ k0 ∧ k0 ≤ 1099500000000) :
    Calls Try.prog 20 #[v, .int .i64 k0] w fun e w' => e = .returned (.int .i64 (k0 + tz s s.length)) ∧ Upd (TB v rvs s) w w' := by
  obtain ⟨ao, cap, rfl, h1, h2, h3⟩ := h
  have G := Lib.hid h3.mark; clear h3
  obtain ⟨hl, hv, hp⟩ := hs
  have HV := Lib.hid hv; clear hv
  have HP : Hid (∀ k, tz s k ≤ 2097152) := Lib.hid (fun k => by have := tz_le s k; omega)
  clear hp
  go_enter Try.func20, Try.ntmps20
  go_wp2
  go_loopw [1, 5] (fun t i wr => ∃ k : Nat, k ≤ s.length ∧ i = .int .i64 k ∧ t = .int .i64 (k0 + tz s k) ∧ MarkT T lo hi wr ao rvs s ∧ Upd (TB (.slice ao s.length cap) rvs s) w wr) (fun _ i _ => s.length - (intOf i).toNat)
  case atStart => exact ⟨0, Nat.zero_le _, rfl, by simp [tz_zero], G.out, Upd.refl _⟩
  case round =>
    obtain ⟨k, hk, rfl, rfl, hm, hu⟩ := hrel
    obtain ⟨wo, rfl⟩ : ∃ wo : World, wo = wr := ⟨_, rfl⟩
    have HM := Lib.hid hm; clear hm
    have hps := HP.out k
    by_cases hlt : k < s.length
    · obtain ⟨b, o, A, B, rfl, hc0, hc1, hc2, hc3, hf0, hf3⟩ := HM.out.at_ hlt
      have hne : s ≠ [] := by intro e; subst e; simp at hlt
      have hps2 := HP.out (k + 1)
      rw [tz_succ hlt] at hps2
      have hvl := HV.out k hlt
      have HTS := Lib.hid (tz_succ hlt)
      obtain ⟨n, hn⟩ : ∃ n, (taAt s k).vars.length = n := ⟨_, rfl⟩
      obtain ⟨m, hm'⟩ : ∃ m, (taAt s k).cond.length = m := ⟨_, rfl⟩
      unfold TaSmall at hvl
      rw [hn, hm'] at hps2 hvl HTS
      obtain ⟨q, hq⟩ : ∃ q, tz s k = q := ⟨_, rfl⟩
      rw [hq] at hps hps2 HTS ⊢
      have HQ := Lib.hid hq; clear hq
      have HM1 := Lib.hid (HM.out.put hT hlt (d := 0) (.inl rfl) (k0 + q))
      obtain ⟨ys1, el1, ro1⟩ := HM1.out.row (2 * k) (by omega)
      rw [rowT0, hn] at el1
      have HR1 := Lib.hid ro1
      have HY1 := Lib.hid el1
      obtain ⟨a1, cc1, ev1, _, _, q3⟩ := ro1
      rw [el1] at ev1
      clear q3 el1
      rw [ev1] at hc1
      obtain ⟨ys2, el2, ro2⟩ := HM.out.row (2 * k + 1) (by omega)
      obtain ⟨a2, cc2, ev2, _, _, q3⟩ := ro2
      rw [rowT1, hm'] at el2
      rw [el2] at ev2
      clear q3 el2
      rw [ev2] at hc2
      have HEV := Lib.hid (And.intro ev1 ev2); clear ev1 ev2
      obtain ⟨w1, hw1⟩ : ∃ w1, w1 = wo.setCell ⟨b, o + (k * 4 + 0), none⟩ (.int .i64 (k0 + q)) := ⟨_, rfl⟩
      have e40 : o + (k * 4 + 0) = o + k * 4 := by omega
      rw [← hw1] at HM1 HR1
      rw [e40] at hw1
      have U1 := Lib.hid (show Upd (TB (.slice (some ⟨b, o, none⟩) s.length cap) rvs s) w w1 by rw [hw1]; exact hu.setCell (a := ⟨b, o + k * 4, none⟩) _ (fun _ => .inl ⟨hne, rfl⟩))
      clear hu
      go_wp2_with fail
      rw [← hw1]
      have HW1 := Lib.hid hw1; clear hw1 hc0 hf0
      refine (markIntS_c lo hi _ ys1 (k0 + q + 1) _ (by rw [← HEV.out.1]; exact HR1.out) (by rw [HY1.out]; exact hvl.1) (by omega)).mono ?_
      rw [HY1.out]
      rintro e w2 ⟨rfl, hown2, hu2⟩
      have hu2' : Upd (fun c => rowT s (2 * k) ≠ [] ∧ c = blk (rvAt rvs (2 * k))) w1 w2 := hu2.mono (fun c _ hb => ⟨fun e2 => hb.1 (List.eq_nil_of_length_eq_zero (by rw [HY1.out, ← hn, ← rowT0, e2]; rfl)), by rw [HEV.out.1]; exact hb.2⟩)
      have HM2 := Lib.hid (HM1.out.putRow hT (i := 2 * k) (by omega) (ys := seqI (k0 + q + 1) n) (by rw [seqI_length, rowT0, hn]) (by rw [HEV.out.1]; exact hown2) hu2')
      have U2 := Lib.hid (U1.out.trans (hu2'.mono (fun c _ hb => .inr ⟨2 * k, by omega, hb.1, hb.2⟩)))
      clear hown2 hu2 hu2'
      obtain ⟨b', o', A', B', e9, hc0, hc1', hc2', hc3', hf0, hf3'⟩ := HM2.out.at_ hlt
      simp only [Option.some.injEq, Addr.mk.injEq, and_true] at e9
      obtain ⟨rfl, rfl⟩ := e9
      rw [HEV.out.2] at hc2'
      obtain ⟨ys2, el2, ro2⟩ := HM2.out.row (2 * k + 1) (by omega)
      rw [rowT1, hm'] at el2
      have HR2 := Lib.hid ro2; clear ro2
      have HY2 := Lib.hid el2; clear el2
      clear hc1 hc2 hc3 hf3 hc0 hf0 hc1' hc3' hf3'
      go_wp2_with fail
      refine (markIntS_c lo hi _ ys2 (k0 + q + 1 + n) _ (by rw [← HEV.out.2]; exact HR2.out) (by rw [HY2.out]; exact hvl.2) (by omega)).mono ?_
      rw [HY2.out]
      rintro e w3 ⟨rfl, hown3, hu3⟩
      have hu3' : Upd (fun c => rowT s (2 * k + 1) ≠ [] ∧ c = blk (rvAt rvs (2 * k + 1))) w2 w3 := hu3.mono (fun c _ hb => ⟨fun e2 => hb.1 (List.eq_nil_of_length_eq_zero (by rw [HY2.out, ← hm', ← rowT1, e2]; rfl)), by rw [HEV.out.2]; exact hb.2⟩)
      have HM3 := Lib.hid (HM2.out.putRow hT (i := 2 * k + 1) (by omega) (ys := seqI (k0 + q + 1 + n) m) (by rw [seqI_length, rowT1, hm']) (by rw [HEV.out.2]; exact hown3) hu3')
      have U3 := Lib.hid (U2.out.trans (hu3'.mono (fun c _ hb => .inr ⟨2 * k + 1, by omega, hb.1, hb.2⟩)))
      clear hown3 hu3 hu3' hc2'
      obtain ⟨b', o', A', B', e9, hc0, hc1, hc2, hc3, hf0, hf3⟩ := HM3.out.at_ hlt
      simp only [Option.some.injEq, Addr.mk.injEq, and_true] at e9
      obtain ⟨rfl, rfl⟩ := e9
      clear hc0 hc1 hc2 hf0
      go_wp2
      go_roundw
      case rel => exact ⟨k + 1, by omega, by go_num, by rw [HTS.out]; go_num, HM3.out.put hT hlt (d := 3) (.inr rfl) _, U3.out.setCell (a := ⟨b, o + k * 4 + 3, none⟩) _ (fun _ => .inl ⟨hne, rfl⟩)⟩
      case measure => simp [intOf]; omega
    · have hkl : k = s.length := by omega
      have HK := Lib.hid hkl; clear hkl
      go_wp2
      go_ret
      exact ⟨ret_int (by rw [HK.out]), hu⟩
end Go.Proofs.Ytolmmhdeebgglaa
