/- Contracts of the spec's and the program's small functions over slices of ints. -/
import Derived.Test.YtmhofeljieicaaaBase
import Derived.Test.YtmhofeljieicaaaNum
namespace Go.Proofs.Ytmhofeljieicaaa
open Go.RowKit

theorem l1In_c (n lo hi : Int) (w : World) : Calls Try.prog 27 #[.int .i64 n, .int .i64 lo, .int .i64 hi] w fun e w' => e = .returned (.bool (decide (lo ≤ n) && decide (n ≤ hi))) ∧ w' = w := by
  by_cases h1 : lo ≤ n
  · go_enter Try.func27, Try.ntmps27
    go_wp2
    all_goals go_ret
    all_goals exact ⟨ret_bool (by simp [h1]), rfl⟩
  · go_enter Try.func27, Try.ntmps27
    go_wp2
    all_goals go_ret
    all_goals exact ⟨ret_bool (by have : ¬ lo ≤ n := by omega
                                  simp [this]), rfl⟩
theorem l1Most_c (a b : Int) (w : World) : Calls Try.prog 43 #[.int .i64 a, .int .i64 b] w fun e w' => e = .returned (.int .i64 (imax a b)) ∧ w' = w := by
  by_cases h1 : b < a
  · go_enter Try.func43, Try.ntmps43
    go_wp2
    all_goals go_ret
    all_goals exact ⟨ret_int (by unfold imax; omega), rfl⟩
  · go_enter Try.func43, Try.ntmps43
    go_wp2
    all_goals go_ret
    all_goals exact ⟨ret_int (by unfold imax; omega), rfl⟩



end Go.Proofs.Ytmhofeljieicaaa
