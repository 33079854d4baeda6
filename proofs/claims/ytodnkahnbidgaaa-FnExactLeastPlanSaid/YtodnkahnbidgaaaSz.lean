/- What a size that was not exceeded says of the lengths. -/
import Derived.Test.YtodnkahnbidgaaaBase
namespace Go.Proofs.Ytodnkahnbidgaaa
/-- the lengths of a slice of slices are small -/
structure Small (xss : List (List Int)) : Prop where
  len : xss.length ≤ 1048576
  row : ∀ k, k < xss.length → (rowAt xss k).length ≤ 1048576
  psum : ∀ k, k ≤ xss.length → psum xss k ≤ 1048576
theorem sum_take_le (l : List Nat) (k : Nat) : (l.take k).sum ≤ l.sum := by
  induction l generalizing k with
  | nil => simp
  | cons x xs ih =>
    cases k with
    | zero => simp
    | succ k => simp only [List.take_succ_cons, List.sum_cons]; have := ih k; omega
theorem Small.of_bound {xss : List (List Int)} (h : (xss.length : Int) + (xss.map List.length).sum ≤ 1048576) : Small xss := by
  refine ⟨by omega, fun k hk => ?_, fun k _ => ?_⟩
  · have := len_le_sum (rowAt_mem hk); omega
  · have := sum_take_le (xss.map List.length) k
    simp only [Go.Proofs.Ytodnkahnbidgaaa.psum, List.map_take]; omega
theorem Small.of_szG {left : Int} {xss : List (List Int)} (hl : left ≤ 1048576) (h : 0 ≤ szG left xss) : Small xss := by
  rcases szG_cases left xss with h1 | h1
  · omega
  · exact Small.of_bound (by omega)
theorem szG_range {left : Int} {xss : List (List Int)} (h : 0 ≤ szG left xss) : szG left xss ≤ left := by
  rcases szG_cases left xss with h1 | h1 <;> omega
end Go.Proofs.Ytodnkahnbidgaaa
