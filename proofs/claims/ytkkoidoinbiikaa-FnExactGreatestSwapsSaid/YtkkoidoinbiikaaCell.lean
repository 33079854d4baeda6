/- Contracts of the spec's and the program's small functions over slices of ints. -/
import Derived.Test.YtkkoidoinbiikaaBase
import Derived.Test.YtkkoidoinbiikaaNum
namespace Go.Proofs.Ytkkoidoinbiikaa
open Go.RowKit

theorem l1In_c (n lo hi : Int) (w : World) : Calls Try.prog 92 #[.int .i64 n, .int .i64 lo, .int .i64 hi] w fun e w' => e = .returned (.bool (decide (lo ≤ n) && decide (n ≤ hi))) ∧ w' = w := by
  by_cases h1 : lo ≤ n
  · go_enter Try.func92, Try.ntmps92
    go_wp2
    all_goals go_ret
    all_goals exact ⟨ret_bool (by simp [h1]), rfl⟩
  · go_enter Try.func92, Try.ntmps92
    go_wp2
    all_goals go_ret
    all_goals exact ⟨ret_bool (by have : ¬ lo ≤ n := by omega
                                  simp [this]), rfl⟩
theorem l1Most_c (a b : Int) (w : World) : Calls Try.prog 55 #[.int .i64 a, .int .i64 b] w fun e w' => e = .returned (.int .i64 (imax a b)) ∧ w' = w := by
  by_cases h1 : b < a
  · go_enter Try.func55, Try.ntmps55
    go_wp2
    all_goals go_ret
    all_goals exact ⟨ret_int (by unfold imax; omega), rfl⟩
  · go_enter Try.func55, Try.ntmps55
    go_wp2
    all_goals go_ret
    all_goals exact ⟨ret_int (by unfold imax; omega), rfl⟩
theorem l1Least_c (a b : Int) (w : World) : Calls Try.prog 56 #[.int .i64 a, .int .i64 b] w fun e w' => e = .returned (.int .i64 (imin a b)) ∧ w' = w := by
  by_cases h1 : a < b
  · go_enter Try.func56, Try.ntmps56
    go_wp2
    all_goals go_ret
    all_goals exact ⟨ret_int (by unfold imin; omega), rfl⟩
  · go_enter Try.func56, Try.ntmps56
    go_wp2
    all_goals go_ret
    all_goals exact ⟨ret_int (by unfold imin; omega), rfl⟩



end Go.Proofs.Ytkkoidoinbiikaa
