/- Contracts of the spec's and the program's small functions over slices of ints. -/
import Derived.Test.YtolmmhdeebgglaaBase
import Derived.Test.YtolmmhdeebgglaaNum
namespace Go.Proofs.Ytolmmhdeebgglaa
open Go.RowKit

theorem l1In_c (n lo hi : Int) (w : World) : Calls Try.prog 80 #[.int .i64 n, .int .i64 lo, .int .i64 hi] w fun e w' => e = .returned (.bool (decide (lo ≤ n) && decide (n ≤ hi))) ∧ w' = w := by
  by_cases h1 : lo ≤ n
  · go_enter Try.func80, Try.ntmps80
    go_wp2
    all_goals go_ret
    all_goals exact ⟨ret_bool (by simp [h1]), rfl⟩
  · go_enter Try.func80, Try.ntmps80
    go_wp2
    all_goals go_ret
    all_goals exact ⟨ret_bool (by have : ¬ lo ≤ n := by omega
                                  simp [this]), rfl⟩
theorem l1Most_c (a b : Int) (w : World) : Calls Try.prog 45 #[.int .i64 a, .int .i64 b] w fun e w' => e = .returned (.int .i64 (imax a b)) ∧ w' = w := by
  by_cases h1 : b < a
  · go_enter Try.func45, Try.ntmps45
    go_wp2
    all_goals go_ret
    all_goals exact ⟨ret_int (by unfold imax; omega), rfl⟩
  · go_enter Try.func45, Try.ntmps45
    go_wp2
    all_goals go_ret
    all_goals exact ⟨ret_int (by unfold imax; omega), rfl⟩

set_option maxHeartbeats 400000 in
theorem l1All_c (v : Value) (xs : List Int) (lo hi : Int) (w : World) (h : Ints w v xs) :
    Calls Try.prog 81 #[v, .int .i64 lo, .int .i64 hi] w fun e w' => e = .returned (.bool (allIn lo hi xs)) ∧ w' = w := by
  obtain ⟨ao, cap, rfl, h1, h2, h3⟩ := h
  have G := Lib.hid h3; clear h3
  go_enter Try.func81, Try.ntmps81
  go_wp2
  go_loop [11] (fun i => ∃ k : Nat, k ≤ xs.length ∧ i = .int .i64 k ∧ ∀ j, j < k → lo ≤ ix xs j ∧ ix xs j ≤ hi) (fun i => xs.length - (intOf i).toNat)
  case atStart => exact ⟨0, Nat.zero_le _, rfl, fun j hj => by omega⟩
  case round =>
    obtain ⟨k, hk, rfl, hj⟩ := hrel
    have HJ := Lib.hid hj; clear hj
    by_cases hlt : k < xs.length
    · obtain ⟨b, o, rfl, hc⟩ := G.out k hlt
      by_cases hin : lo ≤ ix xs k ∧ ix xs k ≤ hi
      · have hd : (decide (lo ≤ ix xs k) && decide (ix xs k ≤ hi)) = true := by simp [hin]
        have HD := Lib.hid hd; clear hd
        have HI := Lib.hid hin; clear hin
        go_wp2_with (go_at_call 80; refine (l1In_c (ix xs k) lo hi _).mono ?_; rintro e w' ⟨rfl, rfl⟩; rw [HD.out])
        go_round
        case rel => exact ⟨k + 1, by omega, by go_num, fun j hj => by
          by_cases e : j = k
          · subst e; exact HI.out
          · exact HJ.out j (by omega)⟩
        case measure => simp [intOf]; omega
      · have hd : (decide (lo ≤ ix xs k) && decide (ix xs k ≤ hi)) = false := by
          by_cases h1 : lo ≤ ix xs k
          · have : ¬ ix xs k ≤ hi := fun h2 => hin ⟨h1, h2⟩
            simp [this]
          · simp [h1]
        have HD := Lib.hid hd; clear hd
        have HI := Lib.hid hin; clear hin
        go_wp2_with (go_at_call 80; refine (l1In_c (ix xs k) lo hi _).mono ?_; rintro e w' ⟨rfl, rfl⟩; rw [HD.out])
        go_ret
        exact ⟨ret_bool (allIn_not hlt HI.out).symm, rfl⟩
    · go_wp2
      go_ret
      exact ⟨ret_bool (allIn_of (fun j hj => HJ.out j (by omega))).symm, rfl⟩


end Go.Proofs.Ytolmmhdeebgglaa
