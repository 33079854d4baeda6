/- Contracts of the spec's and the program's small functions over slices of ints. -/
import Derived.Test.YtodnkahnbidgaaaBase
import Derived.Test.YtodnkahnbidgaaaNum
namespace Go.Proofs.Ytodnkahnbidgaaa
open Go.RowKit

theorem l1In_c (n lo hi : Int) (w : World) : Calls Try.prog 65 #[.int .i64 n, .int .i64 lo, .int .i64 hi] w fun e w' => e = .returned (.bool (decide (lo ≤ n) && decide (n ≤ hi))) ∧ w' = w := by
  by_cases h1 : lo ≤ n
  · go_enter Try.func65, Try.ntmps65
    go_wp2
    all_goals go_ret
    all_goals exact ⟨ret_bool (by simp [h1]), rfl⟩
  · go_enter Try.func65, Try.ntmps65
    go_wp2
    all_goals go_ret
    all_goals exact ⟨ret_bool (by have : ¬ lo ≤ n := by omega
                                  simp [this]), rfl⟩
theorem l1Most_c (a b : Int) (w : World) : Calls Try.prog 114 #[.int .i64 a, .int .i64 b] w fun e w' => e = .returned (.int .i64 (imax a b)) ∧ w' = w := by
  by_cases h1 : b < a
  · go_enter Try.func114, Try.ntmps114
    go_wp2
    all_goals go_ret
    all_goals exact ⟨ret_int (by unfold imax; omega), rfl⟩
  · go_enter Try.func114, Try.ntmps114
    go_wp2
    all_goals go_ret
    all_goals exact ⟨ret_int (by unfold imax; omega), rfl⟩
theorem l1Least_c (a b : Int) (w : World) : Calls Try.prog 123 #[.int .i64 a, .int .i64 b] w fun e w' => e = .returned (.int .i64 (imin a b)) ∧ w' = w := by
  by_cases h1 : a < b
  · go_enter Try.func123, Try.ntmps123
    go_wp2
    all_goals go_ret
    all_goals exact ⟨ret_int (by unfold imin; omega), rfl⟩
  · go_enter Try.func123, Try.ntmps123
    go_wp2
    all_goals go_ret
    all_goals exact ⟨ret_int (by unfold imin; omega), rfl⟩

set_option maxHeartbeats 400000 in
theorem l1All_c (v : Value) (xs : List Int) (lo hi : Int) (w : World) (h : Ints w v xs) :
    Calls Try.prog 99 #[v, .int .i64 lo, .int .i64 hi] w fun e w' => e = .returned (.bool (allIn lo hi xs)) ∧ w' = w := by
  obtain ⟨ao, cap, rfl, h1, h2, h3⟩ := h
  have G := Lib.hid h3; clear h3
  go_enter Try.func99, Try.ntmps99
  go_wp2
  go_loop [11] (fun i => ∃ k : Nat, k ≤ xs.length ∧ i = .int .i64 k ∧ ∀ j, j < k → lo ≤ ix xs j ∧ ix xs j ≤ hi) (fun i => xs.length - (intOf i).toNat)
  case atStart => exact ⟨0, Nat.zero_le _, rfl, fun j hj => by omega⟩
  case round =>
    obtain ⟨k, hk, rfl, hj⟩ := hrel
    have HJ := Lib.hid hj; clear hj
    by_cases hlt : k < xs.length
    · obtain ⟨b, o, rfl, hc⟩ := G.out k hlt
      by_cases hin : lo ≤ ix xs k ∧ ix xs k ≤ hi
      · have hd : (decide (lo ≤ ix xs k) && decide (ix xs k ≤ hi)) = true := by simp [hin]
        have HD := Lib.hid hd; clear hd
        have HI := Lib.hid hin; clear hin
        go_wp2_with (go_at_call 65; refine (l1In_c (ix xs k) lo hi _).mono ?_; rintro e w' ⟨rfl, rfl⟩; rw [HD.out])
        go_round
        case rel => exact ⟨k + 1, by omega, by go_num, fun j hj => by
          by_cases e : j = k
          · subst e; exact HI.out
          · exact HJ.out j (by omega)⟩
        case measure => simp [intOf]; omega
      · have hd : (decide (lo ≤ ix xs k) && decide (ix xs k ≤ hi)) = false := by
          by_cases h1 : lo ≤ ix xs k
          · have : ¬ ix xs k ≤ hi := fun h2 => hin ⟨h1, h2⟩
            simp [this]
          · simp [h1]
        have HD := Lib.hid hd; clear hd
        have HI := Lib.hid hin; clear hin
        go_wp2_with (go_at_call 65; refine (l1In_c (ix xs k) lo hi _).mono ?_; rintro e w' ⟨rfl, rfl⟩; rw [HD.out])
        go_ret
        exact ⟨ret_bool (allIn_not hlt HI.out).symm, rfl⟩
    · go_wp2
      go_ret
      exact ⟨ret_bool (allIn_of (fun j hj => HJ.out j (by omega))).symm, rfl⟩


set_option maxHeartbeats 400000 in
theorem total_c (v : Value) (xs : List Int) (w : World) (h : Ints w v xs) (hs : SumOk xs) :
    Calls Try.prog 95 #[v] w fun e w' => e = .returned (.int .i64 xs.sum) ∧ w' = w := by
  obtain ⟨ao, cap, rfl, h1, h2, h3⟩ := h
  have G := Lib.hid h3; clear h3
  have HS := Lib.hid hs; clear hs
  go_enter Try.func95, Try.ntmps95
  go_wp2
  go_loop [3, 8] (fun s i => ∃ k : Nat, k ≤ xs.length ∧ i = .int .i64 k ∧ s = .int .i64 (xs.take k).sum) (fun _ i => xs.length - (intOf i).toNat)
  case atStart => exact ⟨0, Nat.zero_le _, rfl, by simp⟩
  case round =>
    obtain ⟨k, hk, rfl, rfl⟩ := hrel
    by_cases hlt : k < xs.length
    · obtain ⟨b, o, rfl, hc⟩ := G.out k hlt
      have b1 := HS.out k
      have b2 := HS.out (k + 1)
      have e2 := Lib.hid (sum_take_succ hlt)
      rw [e2.out] at b2
      go_wp2
      go_round
      case rel => exact ⟨k + 1, by omega, by go_num, by rw [e2.out]⟩
      case measure => simp [intOf]; omega
    · go_wp2
      go_ret
      exact ⟨ret_int (by rw [List.take_of_length_le (by omega)]), rfl⟩
end Go.Proofs.Ytodnkahnbidgaaa
