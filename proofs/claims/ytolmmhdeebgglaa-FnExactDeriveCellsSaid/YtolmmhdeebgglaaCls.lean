/- Rows of cells: what slices of structs are read by. No program in sight. -/
import Derived.Test.YtolmmhdeebgglaaLib
namespace Go.Proofs.Ytolmmhdeebgglaa
open Go.RowKit

/-- at the address ao N cells are read, as f says -/
def CellsA (w : World) (ao : Option Addr) (N : Nat) (f : Nat → Value) : Prop :=
  ∀ i, i < N → ∃ b o, ao = some ⟨b, o, none⟩ ∧ w.cell? ⟨b, o + i, none⟩ = some (f i)
theorem CellsA.upd {S : Nat → Prop} {w w' : World} {ao : Option Addr} {N : Nat} {f : Nat → Value} (h : CellsA w ao N f) (u : Upd S w w') (hs : N ≠ 0 → ¬ S (ablk ao)) : CellsA w' ao N f := by
  intro i hi
  obtain ⟨b, o, rfl, hc⟩ := h i hi
  exact ⟨b, o, rfl, u.cell hc (hs (by omega))⟩
theorem CellsA.ext {w w' : World} {ao : Option Addr} {N : Nat} {f : Nat → Value} (h : CellsA w ao N f) (u : Ext w w') : CellsA w' ao N f := h.upd u (fun _ s => s)

/-- the same in a block of its own, of type T, numbered from lo on and below hi -/
def OwnC (T lo hi : Nat) (w : World) (ao : Option Addr) (N : Nat) (f : Nat → Value) : Prop :=
  N = 0 ∨ ∃ g o c, ao = some ⟨g, o, none⟩ ∧ lo ≤ g ∧ g < hi ∧ w.heap[g]? = some (.cells c T (0, 0)) ∧ ∀ i, i < N → c[o + i]? = some (f i)
namespace OwnC
variable {T lo hi lo' hi' N : Nat} {S : Nat → Prop} {w w' : World} {ao : Option Addr} {f g : Nat → Value}
theorem cells (h : OwnC T lo hi w ao N f) : CellsA w ao N f := by
  intro i hi
  rcases h with h | ⟨g, o, c, rfl, _, _, hg, hc⟩
  · omega
  · exact ⟨g, o, rfl, by simp [World.cell?, hg, hc i hi]⟩
theorem upd (h : OwnC T lo hi w ao N f) (u : Upd S w w') (hs : N ≠ 0 → ¬ S (ablk ao)) : OwnC T lo hi w' ao N f := by
  by_cases hN : N = 0
  · exact .inl hN
  rcases h with h | ⟨g, o, c, rfl, l1, l2, hg, hc⟩
  · exact .inl h
  · exact .inr ⟨g, o, c, rfl, l1, l2, by rw [u.block g (Array.getElem?_eq_some_iff.1 hg).1 (hs hN)]; exact hg, hc⟩
theorem ext (h : OwnC T lo hi w ao N f) (u : Ext w w') : OwnC T lo hi w' ao N f := h.upd u (fun _ s => s)
theorem mono (h : OwnC T lo hi w ao N f) (h1 : lo' ≤ lo) (h2 : hi ≤ hi') : OwnC T lo' hi' w ao N f := by
  rcases h with h | ⟨g, o, c, rfl, l1, l2, hg, hc⟩
  · exact .inl h
  · exact .inr ⟨g, o, c, rfl, by omega, by omega, hg, hc⟩
theorem range (h : OwnC T lo hi w ao N f) (hN : N ≠ 0) : lo ≤ ablk ao ∧ ablk ao < hi ∧ ablk ao < w.heap.size := by
  rcases h with h | ⟨g, o, c, rfl, l1, l2, hg, hc⟩
  · exact absurd h hN
  · exact ⟨l1, l2, (Array.getElem?_eq_some_iff.1 hg).1⟩
theorem congr (h : OwnC T lo hi w ao N f) (e : ∀ i, i < N → f i = g i) : OwnC T lo hi w ao N g := by
  rcases h with h | ⟨b, o, c, rfl, l1, l2, hg, hc⟩
  · exact .inl h
  · exact .inr ⟨b, o, c, rfl, l1, l2, hg, fun i hi => by rw [hc i hi, e i hi]⟩
/-- one cell, where it lies, and that it may be written -/
theorem at_ (h : OwnC T lo hi w ao N f) {i : Nat} (hi' : i < N) : ∃ b o, ao = some ⟨b, o, none⟩ ∧ lo ≤ b ∧ b < hi ∧ b < w.heap.size ∧
    (∀ j, j < N → w.cell? ⟨b, o + j, none⟩ = some (f j)) ∧ (∀ j, w.frozen? ⟨b, o + j, none⟩ = false) := by
  rcases h with h | ⟨g, o, c, rfl, l1, l2, hg, hc⟩
  · omega
  · exact ⟨g, o, rfl, l1, l2, (Array.getElem?_eq_some_iff.1 hg).1, fun j hj => by simp [World.cell?, hg, hc j hj], fun j => by simp [World.frozen?, hg]⟩
/-- a store -/
theorem set {b o : Nat} (h : OwnC T lo hi w (some ⟨b, o, none⟩) N f) {i : Nat} (hi' : i < N) (x : Value) :
    OwnC T lo hi (w.setCell ⟨b, o + i, none⟩ x) (some ⟨b, o, none⟩) N (fun j => if j = i then x else f j) := by
  rcases h with h | ⟨g, o', c, hv, l1, l2, hg, hc⟩
  · omega
  · simp only [Option.some.injEq, Addr.mk.injEq, and_true] at hv
    obtain ⟨rfl, rfl⟩ := hv
    refine .inr ⟨b, o, c.setIfInBounds (o + i) x, rfl, l1, l2, ?_, fun j hj => ?_⟩
    · simp [World.setCell, Array.getElem?_modify, hg]
    · have hb : o + i < c.size := (Array.getElem?_eq_some_iff.1 (hc i hi')).1
      rw [Array.getElem?_setIfInBounds]
      by_cases e : j = i
      · subst e; simp [hb]
      · rw [if_neg (by omega)]
        show c[o + j]? = some (if j = i then x else f j)
        rw [if_neg e]; exact hc j hj
theorem drew (h : OwnC T lo hi w ao N f) : OwnC T lo hi w.drew ao N f := h
theorem of_rowIs {b : Nat} (h : w.rowIs b T N f) (l1 : lo ≤ b) (l2 : b < hi) : OwnC T lo hi w (some ⟨b, 0, none⟩) N f := by
  obtain ⟨c, hb, hs, hc⟩ := h
  exact .inr ⟨b, 0, c, rfl, l1, l2, hb, fun i hi => by rw [Nat.zero_add]; exact hc i hi⟩
/-- a row in a block of another type lies elsewhere -/
theorem ne_own {lo2 hi2 : Nat} {v : Value} {xs : List Int} (h : OwnC T lo hi w ao N f) (hT : T ≠ 3) (o : Own lo2 hi2 w v xs) (hN : N ≠ 0) (hx : xs ≠ []) : blk v ≠ ablk ao := by
  rcases h with h | ⟨g, o', c, rfl, _, _, hg, _⟩
  · exact absurd h hN
  · obtain ⟨a2, c2, rfl, _, _, h4⟩ := o
    rcases h4 with h4 | ⟨g', o', c', rfl, _, _, hg', _⟩
    · exact absurd h4 hx
    · simp only [blk, ablk]
      intro e; subst e; rw [hg] at hg'; simp at hg'; exact hT hg'.2
end OwnC

section
variable {P : Program}
/-- 'make' of a slice of structs -/
theorem run_make_wide (t e : TypeId) (z : Value) (sz bytes : Nat) (ht : P.underlying t = some (.slice e)) (hinfo : (P.info? e).map (fun i => (i.zero, i.size, i.bytes)) = some (some z, sz, bytes))
    (kl kc : IntKind) (n : Nat) (hbytes : bytes * n ≤ 281474976710656) (h63 : n ≤ 9223372036854775807) (w : World) :
    (Instr.makeSlice t (.int kl (n : Int)) (.int kc (n : Int))).run P w = .ok (.slice (some ⟨w.heap.size, 0, none⟩) n n) (w.alloc (.cells (madeCells z.cells (n * sz)) e)) := by
  obtain ⟨i, hi, hzz⟩ := Option.map_eq_some_iff.1 hinfo
  simp only [Prod.mk.injEq] at hzz
  obtain ⟨hz, hs, hb⟩ := hzz
  have hb' : (i.bytes : Int) * (n : Int) ≤ 281474976710656 := by
    rw [hb]
    have h : ((bytes * n : Nat) : Int) ≤ 281474976710656 := by omega
    rwa [Int.natCast_mul] at h
  have hr := run_make (P := P) w t e i z ht hi hz kl kc n n (by omega) (Int.le_refl _) hb' (by omega)
  simp only [Int.toNat_natCast, hs] at hr
  exact hr
end
theorem rowIs_made_wide (w : World) (z : Array Value) (N : Nat) (t : TypeId) : (w.alloc (.cells (madeCells z N) t)).rowIs w.heap.size t N (fun i => z[i % z.size]!) :=
  ⟨_, Go.Deep.blk_alloc_new _ _, size_madeCells _ _, fun i hi => by simp [madeCells, hi]⟩
end Go.Proofs.Ytolmmhdeebgglaa
