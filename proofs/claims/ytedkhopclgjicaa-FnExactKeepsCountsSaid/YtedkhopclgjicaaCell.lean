/- Contracts of the spec's and the program's small functions over slices of ints. -/
import Derived.Test.YtedkhopclgjicaaBase
import Derived.Test.YtedkhopclgjicaaNum
namespace Go.Proofs.Ytedkhopclgjicaa
open Go.RowKit

theorem l1In_c (n lo hi : Int) (w : World) : Calls Try.prog 38 #[.int .i64 n, .int .i64 lo, .int .i64 hi] w fun e w' => e = .returned (.bool (decide (lo ≤ n) && decide (n ≤ hi))) ∧ w' = w := by
  by_cases h1 : lo ≤ n
  · go_enter Try.func38, Try.ntmps38
    go_wp2
    all_goals go_ret
    all_goals exact ⟨ret_bool (by simp [h1]), rfl⟩
  · go_enter Try.func38, Try.ntmps38
    go_wp2
    all_goals go_ret
    all_goals exact ⟨ret_bool (by have : ¬ lo ≤ n := by omega
                                  simp [this]), rfl⟩



end Go.Proofs.Ytedkhopclgjicaa
