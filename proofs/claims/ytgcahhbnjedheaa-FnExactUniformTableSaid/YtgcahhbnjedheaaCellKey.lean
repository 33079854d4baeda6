/- The spec's and the program's CellKey, and the law that they agree. -/
import Derived.Test.YtgcahhbnjedheaaCell
namespace Go.Proofs.Ytgcahhbnjedheaa
open Go.RowKit

theorem ret_int_bool {a a' : Int} {b b' : Bool} (h : a = a') (k : b = b') : Ending.returned (.tuple #[.int .i64 a, .bool b]) = .returned (.tuple #[.int .i64 a', .bool b']) := by rw [h, k]

/-- CellKey's two results -/
def ckB (xs : List Int) : Bool := decide (xs.length ≤ 40) && allIn 0 65535 xs
def ckV (xs : List Int) : Int := if ckB xs = true then xs.sum % 65536 else 0

theorem keys_sumOk {xs : List Int} (hl : xs.length ≤ 40) (h : allIn 0 65535 xs = true) : SumOk xs :=
  SumOk.of_bound (B := 65535) (by omega) (fun x hx => by have := allIn_mem h hx; omega) hl (by omega)

theorem yKeys_c (v : Value) (xs : List Int) (w : World) (h : Ints w v xs) : Calls Try.prog 31 #[v] w fun e w' => e = .returned (.bool (allIn 0 65535 xs)) ∧ w' = w := by
  have H := Lib.hid h; clear h
  go_enter Try.func31, Try.ntmps31
  go_wp2_with (go_at_call 46; refine (l1All_c v xs 0 65535 _ H.out).mono ?_; rintro e w' ⟨rfl, rfl⟩)
  go_ret
  exact ⟨rfl, rfl⟩

set_option maxHeartbeats 400000 in
theorem specCellKey_c (v : Value) (xs : List Int) (w : World) (h : Ints w v xs) :
    Calls Try.prog 9 #[v] w fun e w' => e = .returned (.tuple #[.int .i64 (ckV xs), .bool (ckB xs)]) ∧ w' = w := by
  have H := Lib.hid h
  obtain ⟨ao, cap, rfl, h1, h2, h3⟩ := h
  have G := Lib.hid h3; clear h3
  by_cases hl : 40 < xs.length
  · go_enter Try.func9, Try.ntmps9
    go_wp2
    go_ret2
    have : ckB xs = false := by simp [ckB]; omega
    exact ⟨ret_int_bool (by simp [ckV, this]) this.symm, rfl⟩
  · cases hk : allIn 0 65535 xs
    · have HK := Lib.hid hk; clear hk
      go_enter Try.func9, Try.ntmps9
      go_wp2_with (go_at_call 31; refine (yKeys_c _ xs _ H.out).mono ?_; rintro e w' ⟨rfl, rfl⟩; rw [HK.out])
      go_ret2
      have : ckB xs = false := by simp [ckB, HK.out]
      exact ⟨ret_int_bool (by simp [ckV, this]) this.symm, rfl⟩
    · have HK := Lib.hid hk; clear hk
      go_enter Try.func9, Try.ntmps9
      go_wp2_with (go_at_call 31; refine (yKeys_c _ xs _ H.out).mono ?_; rintro e w' ⟨rfl, rfl⟩; rw [HK.out])
      go_loop [4, 17] (fun s i => ∃ k : Nat, k ≤ xs.length ∧ i = .int .i64 k ∧ s = .int .i64 ((xs.take k).sum % 65536)) (fun _ i => xs.length - (intOf i).toNat)
      case atStart => exact ⟨0, Nat.zero_le _, rfl, by simp⟩
      case round =>
        obtain ⟨k, hk, rfl, rfl⟩ := hrel
        have b1 : 0 ≤ (xs.take k).sum % 65536 := by omega
        have b2 : (xs.take k).sum % 65536 < 65536 := by omega
        by_cases hlt : k < xs.length
        · obtain ⟨b, o, rfl, hc⟩ := G.out k hlt
          have b3 := allIn_true HK.out hlt
          have e2 := Lib.hid (sum_take_succ hlt)
          go_wp2
          go_round
          case rel => exact ⟨k + 1, by omega, by go_num, by rw [e2.out]; go_num⟩
          case measure => simp [intOf]; omega
        · go_wp2
          go_ret2
          have : ckB xs = true := by simp [ckB, HK.out]; omega
          exact ⟨ret_int_bool (by rw [ckV, if_pos this, List.take_of_length_le (by omega)]) this.symm, rfl⟩

set_option maxHeartbeats 400000 in
theorem implCellKey_c (v : Value) (xs : List Int) (w : World) (h : Ints w v xs) :
    Calls Try.prog 11 #[v] w fun e w' => e = .returned (.tuple #[.int .i64 (ckV xs), .bool (ckB xs)]) ∧ w' = w := by
  have H := Lib.hid h
  obtain ⟨ao, cap, rfl, h1, h2, h3⟩ := h
  clear h3
  by_cases hl : 40 < xs.length
  · go_enter Try.func11, Try.ntmps11
    go_wp2
    go_ret2
    have : ckB xs = false := by simp [ckB]; omega
    exact ⟨ret_int_bool (by simp [ckV, this]) this.symm, rfl⟩
  · cases hk : allIn 0 65535 xs
    · have HK := Lib.hid hk; clear hk
      go_enter Try.func11, Try.ntmps11
      go_wp2_with (go_at_call 32; refine (areKeys_c _ xs _ H.out).mono ?_; rintro e w' ⟨rfl, rfl⟩; rw [HK.out])
      go_ret2
      have : ckB xs = false := by simp [ckB, HK.out]
      exact ⟨ret_int_bool (by simp [ckV, this]) this.symm, rfl⟩
    · have hs := (sum_nonneg_le (fun x hx => allIn_mem hk hx)).1
      have HK := Lib.hid hk; clear hk
      go_enter Try.func11, Try.ntmps11
      go_wp2_with (first | (go_at_call 32; refine (areKeys_c _ xs _ H.out).mono ?_; rintro e w' ⟨rfl, rfl⟩; rw [HK.out]) | (go_at_call 33; refine (total_c _ xs _ H.out (keys_sumOk (by omega) HK.out)).mono ?_; rintro e w' ⟨rfl, rfl⟩))
      go_ret2
      have : ckB xs = true := by simp [ckB, HK.out]; omega
      exact ⟨ret_int_bool (by rw [ckV, if_pos this]) this.symm, rfl⟩

set_option maxHeartbeats 400000 in
theorem lawCellKey_c (v : Value) (xs : List Int) (w : World) (h : Ints w v xs) (_ : Wf xs) :
    Calls Try.prog 3 #[v] w fun e w' => e = .returned (.bool true) ∧ Ext w w' := by
  have H := Lib.hid h
  obtain ⟨ao, cap, rfl, h1, h2, h3⟩ := h
  clear h3
  by_cases hl : 1048576 < xs.length
  · go_enter Try.func3, Try.ntmps3
    go_wp2
    go_ret
    exact ⟨rfl, Ext.refl _⟩
  · have hq : (ckV xs != ckV xs) = false := by simp
    have hr : (ckB xs != ckB xs) = false := by simp
    go_enter Try.func3, Try.ntmps3
    go_wp2_with fail
    refine (toIntS_c _ xs _ H.out (by omega)).mono ?_
    rintro e w1 ⟨x1, rfl, o1, u1⟩
    go_wp2_with fail
    refine (specCellKey_c _ xs _ o1.ints).mono ?_
    rintro e w2 ⟨rfl, rfl⟩
    go_wp2_with fail
    refine (toIntS_c _ xs _ (H.out.ext u1) (by omega)).mono ?_
    rintro e w3 ⟨x3, rfl, o3, u3⟩
    go_wp2_with fail
    refine (implCellKey_c _ xs _ o3.ints).mono ?_
    rintro e w4 ⟨rfl, rfl⟩
    go_wp2_with fail
    refine (toIntS_c _ xs _ (H.out.ext (u1.trans u3)) (by omega)).mono ?_
    rintro e w5 ⟨x5, rfl, o5, u5⟩
    go_wp2_with fail
    refine (eqIntS_b true _ _ xs xs _ (by simp) (o3.ints.ext u5) o5.ints).mono ?_
    rintro e w6 ⟨rfl, d6⟩
    go_wp2
    go_ret
    exact ⟨rfl, ((u1.trans u3).trans u5).trans (Drew.ext d6)⟩
end Go.Proofs.Ytgcahhbnjedheaa
