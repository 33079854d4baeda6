/- Plain facts on slices of slices of ints: shapes and bounds. No program in sight. -/
import Derived.Test.YtodnkahnbidgaaaNum
namespace Go.Proofs.Ytodnkahnbidgaaa

def shapeB (n m : Int) (xss : List (List Int)) : Bool := decide ((xss.length : Int) = n) && xss.all fun r => decide ((r.length : Int) = m)
def gridB (d : Nat) (hi : Int) (xss : List (List Int)) : Bool :=
  decide (1 ≤ xss.length ∧ xss.length ≤ d ∧ 1 ≤ (rowAt xss 0).length ∧ (rowAt xss 0).length ≤ d) && xss.all fun r => decide (r.length = (rowAt xss 0).length) && allIn 0 hi r

theorem rows_all {p : List Int → Bool} {xss : List (List Int)} : xss.all p = true ↔ ∀ k, k < xss.length → p (rowAt xss k) = true := by
  rw [List.all_eq_true]
  constructor
  · exact fun h k hk => h _ (rowAt_mem hk)
  · intro h r hr
    obtain ⟨k, hk, rfl⟩ := List.getElem_of_mem hr
    rw [← rowAt_eq hk]; exact h k hk
theorem shapeB_true {n m : Int} {xss : List (List Int)} : shapeB n m xss = true ↔ (xss.length : Int) = n ∧ ∀ k, k < xss.length → ((rowAt xss k).length : Int) = m := by
  simp only [shapeB, Bool.and_eq_true, decide_eq_true_eq, rows_all]
theorem shapeB_false {n m : Int} {xss : List (List Int)} (h : ¬ ((xss.length : Int) = n ∧ ∀ k, k < xss.length → ((rowAt xss k).length : Int) = m)) : shapeB n m xss = false :=
  Bool.eq_false_iff.2 (fun e => h (shapeB_true.1 e))
theorem gridB_true {d : Nat} {hi : Int} {xss : List (List Int)} : gridB d hi xss = true ↔
    1 ≤ xss.length ∧ xss.length ≤ d ∧ 1 ≤ (rowAt xss 0).length ∧ (rowAt xss 0).length ≤ d ∧ ∀ k, k < xss.length → (rowAt xss k).length = (rowAt xss 0).length ∧ allIn 0 hi (rowAt xss k) = true := by
  simp only [gridB, Bool.and_eq_true, decide_eq_true_eq, rows_all, and_assoc]
theorem gridB_false {d : Nat} {hi : Int} {xss : List (List Int)} (h : ¬ (1 ≤ xss.length ∧ xss.length ≤ d ∧ 1 ≤ (rowAt xss 0).length ∧ (rowAt xss 0).length ≤ d ∧
    ∀ k, k < xss.length → (rowAt xss k).length = (rowAt xss 0).length ∧ allIn 0 hi (rowAt xss k) = true)) : gridB d hi xss = false :=
  Bool.eq_false_iff.2 (fun e => h (gridB_true.1 e))
theorem rowAt_out {xss : List (List Int)} {k : Nat} (h : xss.length ≤ k) : rowAt xss k = [] := by simp [rowAt, List.getD, h]
/-- the elements of a grid -/
theorem gridB_elem {d : Nat} {hi : Int} {xss : List (List Int)} (h : gridB d hi xss = true) {k j : Nat} (hk : k < xss.length) (hj : j < (rowAt xss k).length) : 0 ≤ ix (rowAt xss k) j ∧ ix (rowAt xss k) j ≤ hi :=
  allIn_true ((gridB_true.1 h).2.2.2.2 k hk).2 hj
end Go.Proofs.Ytodnkahnbidgaaa
