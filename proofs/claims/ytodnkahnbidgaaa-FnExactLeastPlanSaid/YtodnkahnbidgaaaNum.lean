/- Plain facts on lists of ints: all, sums. No program in sight. -/
import Derived.Test.YtodnkahnbidgaaaLib
namespace Go.Proofs.Ytodnkahnbidgaaa

/-- the greater and the lesser of two, behind names -/
def imax (a b : Int) : Int := max a b
def imin (a b : Int) : Int := min a b
theorem imax_cases (a b : Int) : (imax a b = a ∧ b ≤ a) ∨ (imax a b = b ∧ a ≤ b) := by unfold imax; omega
theorem imin_cases (a b : Int) : (imin a b = a ∧ a ≤ b) ∨ (imin a b = b ∧ b ≤ a) := by unfold imin; omega

def allIn (lo hi : Int) (xs : List Int) : Bool := xs.all fun x => decide (lo ≤ x) && decide (x ≤ hi)
theorem all_true_of_ix {p : Int → Bool} {xs : List Int} (h : ∀ j, j < xs.length → p (ix xs j) = true) : xs.all p = true := by
  rw [List.all_eq_true]
  intro x hx
  obtain ⟨j, hj, rfl⟩ := List.getElem_of_mem hx
  rw [← ix_eq hj]; exact h j hj
theorem all_false_of_ix {p : Int → Bool} {xs : List Int} {j : Nat} (hj : j < xs.length) (h : p (ix xs j) = false) : xs.all p = false := by
  apply Bool.eq_false_iff.2
  intro e
  have := List.all_eq_true.1 e _ (ix_mem hj)
  rw [h] at this; cases this
theorem allIn_true {lo hi : Int} {xs : List Int} (h : allIn lo hi xs = true) {j : Nat} (hj : j < xs.length) : lo ≤ ix xs j ∧ ix xs j ≤ hi := by
  have := List.all_eq_true.1 h _ (ix_mem hj)
  simpa using this
theorem allIn_mem {lo hi : Int} {xs : List Int} (h : allIn lo hi xs = true) {x : Int} (hx : x ∈ xs) : lo ≤ x ∧ x ≤ hi := by
  have := List.all_eq_true.1 h _ hx
  simpa using this
theorem allIn_of {lo hi : Int} {xs : List Int} (h : ∀ j, j < xs.length → lo ≤ ix xs j ∧ ix xs j ≤ hi) : allIn lo hi xs = true :=
  all_true_of_ix (fun j hj => by have := h j hj; simp [this])
theorem allIn_not {lo hi : Int} {xs : List Int} {j : Nat} (hj : j < xs.length) (h : ¬ (lo ≤ ix xs j ∧ ix xs j ≤ hi)) : allIn lo hi xs = false :=
  all_false_of_ix hj (by
    by_cases h1 : lo ≤ ix xs j
    · have : ¬ ix xs j ≤ hi := fun h2 => h ⟨h1, h2⟩
      simp [this]
    · simp [h1])

theorem sum_take_succ {xs : List Int} {k : Nat} (h : k < xs.length) : (xs.take (k + 1)).sum = (xs.take k).sum + ix xs k := by
  rw [take_succ_ix h]; simp
theorem sum_nonneg_le {B : Int} {xs : List Int} (h : ∀ x ∈ xs, 0 ≤ x ∧ x ≤ B) : 0 ≤ xs.sum ∧ xs.sum ≤ B * xs.length := by
  induction xs with
  | nil => simp
  | cons x xs ih =>
    have h1 := h x List.mem_cons_self
    have h2 := ih (fun y hy => h y (List.mem_cons_of_mem _ hy))
    have e : B * ((x :: xs).length : Int) = B * (xs.length : Int) + B := by
      simp only [List.length_cons, Int.natCast_add, Int.natCast_one, Int.mul_add, Int.mul_one]
    simp only [List.sum_cons]
    omega
theorem sum_abs_le {B : Int} {xs : List Int} (h : ∀ x ∈ xs, -B ≤ x ∧ x ≤ B) : -(B * xs.length) ≤ xs.sum ∧ xs.sum ≤ B * xs.length := by
  induction xs with
  | nil => simp
  | cons x xs ih =>
    have h1 := h x List.mem_cons_self
    have h2 := ih (fun y hy => h y (List.mem_cons_of_mem _ hy))
    have e : B * ((x :: xs).length : Int) = B * (xs.length : Int) + B := by
      simp only [List.length_cons, Int.natCast_add, Int.natCast_one, Int.mul_add, Int.mul_one]
    simp only [List.sum_cons]
    omega
/-- no sum of first elements passes 2^62 -/
def SumOk (xs : List Int) : Prop := ∀ k, -4611686018427387904 ≤ (xs.take k).sum ∧ (xs.take k).sum ≤ 4611686018427387904
theorem SumOk.of_bound {B : Int} {xs : List Int} (hB : 0 ≤ B) (h : ∀ x ∈ xs, -B ≤ x ∧ x ≤ B) {n : Nat} (hn : xs.length ≤ n) (hm : B * n ≤ 4611686018427387904) : SumOk xs := by
  intro k
  have h1 := sum_abs_le (xs := xs.take k) (fun x hx => h x (List.mem_of_mem_take hx))
  have h2 : B * ((xs.take k).length : Int) ≤ B * (n : Int) := Int.mul_le_mul_of_nonneg_left (by simp; omega) hB
  omega
end Go.Proofs.Ytodnkahnbidgaaa
