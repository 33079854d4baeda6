/- Sorted lists of ints: rising, falling, strictly rising. No program in sight. -/
import Derived.Test.YtkkoidoinbiikaaLib
namespace Go.Proofs.Ytkkoidoinbiikaa
open Go.RowKit

def sortI (xs : List Int) : List Int := xs.mergeSort fun x y => decide (x ≤ y)
theorem sortI_len (xs : List Int) : (sortI xs).length = xs.length := by simp [sortI, List.length_mergeSort]
theorem mem_sortI {xs : List Int} {x : Int} : x ∈ sortI xs ↔ x ∈ xs := by simp [sortI, List.mem_mergeSort]
theorem sortI_perm (xs : List Int) : (sortI xs).Perm xs := List.mergeSort_perm _ _
theorem sortI_sorted (xs : List Int) : (sortI xs).Pairwise (· ≤ ·) := by
  have h := List.pairwise_mergeSort (le := fun x y : Int => decide (x ≤ y)) (fun a b c h1 h2 => by simp only [decide_eq_true_eq] at *; omega) (fun a b => by simp only [Bool.or_eq_true, decide_eq_true_eq]; omega) xs
  exact h.imp (fun h => by simpa using h)
theorem sortI_nil : sortI [] = [] := by simp [sortI]

/-- two lists of the same members in the same order are one -/
theorem eq_of_perm_pairwise {r : Int → Int → Prop} (anti : ∀ a b, r a b → r b a → a = b) : ∀ {xs ys : List Int}, xs.Perm ys → xs.Pairwise r → ys.Pairwise r → xs = ys
  | [], ys, h, _, _ => by rw [List.nil_perm.1 h]
  | x :: xs, [], h, _, _ => by have := List.perm_nil.1 h; cases this
  | x :: xs, y :: ys, h, h1, h2 => by
    have a1 := List.pairwise_cons.1 h1
    have a2 := List.pairwise_cons.1 h2
    have e : x = y := by
      have m1 : x ∈ y :: ys := h.mem_iff.1 (by simp)
      have m2 : y ∈ x :: xs := h.mem_iff.2 (by simp)
      rcases List.mem_cons.1 m1 with e | m1
      · exact e
      · rcases List.mem_cons.1 m2 with e | m2
        · exact e.symm
        · exact anti _ _ (a1.1 y m2) (a2.1 x m1)
    subst e
    rw [eq_of_perm_pairwise anti (List.Perm.cons_inv h) a1.2 a2.2]
/-- from the greatest to the least -/
def fallI (xs : List Int) : List Int := (sortI xs).reverse
theorem fallI_len (xs : List Int) : (fallI xs).length = xs.length := by simp [fallI, sortI_len]
theorem fallI_perm (xs : List Int) : (fallI xs).Perm xs := (List.reverse_perm _).trans (sortI_perm xs)
theorem fallI_falling (xs : List Int) : (fallI xs).Pairwise (· ≥ ·) := by
  unfold fallI
  rw [List.pairwise_reverse]
  exact (sortI_sorted xs).imp (fun h => h)
theorem eq_fallI {xs ys : List Int} (hp : ys.Perm xs) (h : ys.Pairwise (· ≥ ·)) : ys = fallI xs :=
  eq_of_perm_pairwise (r := (· ≥ ·)) (fun a b h1 h2 => by have h1' : b ≤ a := h1; have h2' : a ≤ b := h2; omega) (hp.trans (fallI_perm xs).symm) h (fallI_falling xs)
theorem pairwise_ix {ys : List Int} (h : ∀ a b, a < b → b < ys.length → ix ys b ≤ ix ys a) : ys.Pairwise (· ≥ ·) := by
  rw [List.pairwise_iff_getElem]
  intro i j hi hj hij
  have := h i j hij hj
  rw [ix_eq hi, ix_eq hj] at this
  exact this
/-- inserting: what holds while the element at place k sinks to the front -/
def Sinks (ys : List Int) (i k : Nat) : Prop := (∀ a b, a < b → b ≤ i → a ≠ k → b ≠ k → ix ys b ≤ ix ys a) ∧ ∀ b, k < b → b ≤ i → ix ys b ≤ ix ys k
def FallTo (ys : List Int) (i : Nat) : Prop := ∀ a b, a < b → b < i → ix ys b ≤ ix ys a
theorem Sinks.start {ys : List Int} {i : Nat} (h : FallTo ys i) : Sinks ys i i :=
  ⟨fun a b hab hb ha hb2 => h a b hab (by omega), fun b hb hb2 => by omega⟩
theorem Sinks.stop {ys : List Int} {i k : Nat} (h : Sinks ys i k) (hk : k ≤ i) (h0 : k = 0 ∨ ix ys k ≤ ix ys (k - 1)) : FallTo ys (i + 1) := by
  intro a b hab hb
  by_cases ea : a = k
  · subst ea; exact h.2 b hab (by omega)
  · by_cases eb : b = k
    · subst eb
      rcases h0 with h0 | h0
      · omega
      · by_cases e : a = b - 1
        · subst e; exact h0
        · have := h.1 a (b - 1) (by omega) (by omega) ea (by omega); omega
    · exact h.1 a b hab (by omega) ea eb
/-- one step: the elements at k - 1 and k change places -/
def swapAt (ys : List Int) (k : Nat) : List Int := (ys.set k (ix ys (k - 1))).set (k - 1) (ix ys k)
theorem swapAt_len (ys : List Int) (k : Nat) : (swapAt ys k).length = ys.length := by simp [swapAt]
theorem ix_swapAt {ys : List Int} {k j : Nat} (hk : 0 < k) (hl : k < ys.length) : ix (swapAt ys k) j = if j = k - 1 then ix ys k else if j = k then ix ys (k - 1) else ix ys j := by
  unfold swapAt
  rw [ix_set, ix_set]
  have h1 : k - 1 < (ys.set k (ix ys (k - 1))).length := by simp; omega
  by_cases e : j = k - 1
  · rw [if_pos ⟨e, h1⟩, if_pos e]
  · rw [if_neg (fun x => e x.1), if_neg e]
    by_cases e2 : j = k
    · rw [if_pos ⟨e2, hl⟩, if_pos e2]
    · rw [if_neg (fun x => e2 x.1), if_neg e2]
theorem Sinks.step {ys : List Int} {i k : Nat} (h : Sinks ys i k) (hk : 0 < k) (hki : k ≤ i) (hl : k < ys.length) (hlt : ix ys (k - 1) < ix ys k) : Sinks (swapAt ys k) i (k - 1) := by
  constructor
  · intro a b hab hb ha hb2
    rw [ix_swapAt hk hl, ix_swapAt hk hl, if_neg ha, if_neg hb2]
    by_cases ea : a = k
    · subst ea
      rw [if_pos rfl, if_neg (by omega)]
      exact h.1 (a - 1) b (by omega) hb (by omega) (by omega)
    · rw [if_neg ea]
      by_cases eb : b = k
      · subst eb
        rw [if_pos rfl]
        exact h.1 a (b - 1) (by omega) (by omega) ea (by omega)
      · rw [if_neg eb]
        exact h.1 a b hab hb ea eb
  · intro b hb hbi
    rw [ix_swapAt hk hl, ix_swapAt hk hl, if_neg (by omega), if_pos rfl]
    by_cases eb : b = k
    · subst eb; rw [if_pos rfl]; omega
    · rw [if_neg eb]; exact h.2 b (by omega) hbi
theorem swapAt_perm {ys : List Int} {k : Nat} (hk : 0 < k) (hl : k < ys.length) : (swapAt ys k).Perm ys := by
  unfold swapAt
  have h1 : k - 1 < ys.length := by omega
  rw [ix_eq hl, ix_eq h1]
  exact List.set_set_perm hl h1
end Go.Proofs.Ytkkoidoinbiikaa
