/- The law on IsProtected. -/
import Derived.Test.YtginndoggpfadaaSec
import Derived.Test.YtginndoggpfadaaRgOf
import Derived.Deep.RegionHeld3
namespace Go.Proofs.Ytginndoggpfadaa
open Go.RowKit

set_option maxHeartbeats 3200000 in
theorem lawIsProtected_c (v0 : Value) (xs0 : List (List Int)) (v1 : Value) (xs1 : List (List Int)) (a2 : Int) (a3 : Int) (a4 : Int) (a5 : Int) (w : World) (h0 : Grid w v0 xs0) (h1 : Grid w v1 xs1) (_ : WfG xs0) (_ : WfG xs1) (i2 : -9223372036854775808 ≤ a2 ∧ a2 ≤ 9223372036854775807) (i3 : -9223372036854775808 ≤ a3 ∧ a3 ≤ 9223372036854775807) (i4 : -9223372036854775808 ≤ a4 ∧ a4 ≤ 9223372036854775807) (i5 : -9223372036854775808 ≤ a5 ∧ a5 ≤ 9223372036854775807) :
    Calls Try.prog 3 #[v0, v1, .int .i64 a2, .int .i64 a3, .int .i64 a4, .int .i64 a5] w fun e w' => e = .returned (.bool true) ∧ Ext w w' := by
  have H0 := Lib.hid h0; clear h0
  have H1 := Lib.hid h1; clear h1
  have I2 := Lib.hid i2; clear i2
  have I3 := Lib.hid i3; clear i3
  have I4 := Lib.hid i4; clear i4
  have I5 := Lib.hid i5; clear i5
  have v0 := (Ext.refl w)
  obtain ⟨V0, hV0⟩ : ∃ V, ipV xs0 xs1 a2 a3 a4 a5 = V := ⟨_, rfl⟩
  have HV0 := Lib.hid hV0; clear hV0
  have qv0 : (V0 != V0) = false := by simp
  obtain ⟨V1, hV1⟩ : ∃ V, ipB xs0 xs1 a2 a3 a4 a5 = V := ⟨_, rfl⟩
  have HV1 := Lib.hid hV1; clear hV1
  have qv1 : (V1 != V1) = false := by simp
  go_enter Try.func3, Try.ntmps3
  obtain ⟨t0, ht0⟩ : ∃ t, szG 1048576 xs0 = t := ⟨_, rfl⟩
  have T0 := Lib.hid ht0; clear ht0
  go_wp2_with fail
  refine (szIntSS_c _ xs0 1048576 _ (H0.out.ext v0) (by omega)).mono ?_
  rw [T0.out]
  rintro e w' ⟨rfl, rfl⟩
  by_cases hz0 : t0 < 0
  · go_wp2
    go_ret
    exact ⟨rfl, v0⟩
  have tr0 : 0 ≤ t0 ∧ t0 ≤ 1048576 := by have h1 := T0.out; have h2 := szG_range (left := 1048576) (xss := xs0) (by omega); omega
  have S0 := Lib.hid (Small.of_szG (left := 1048576) (xss := xs0) (by omega) (by have h1 := T0.out; omega))
  obtain ⟨t1, ht1⟩ : ∃ t, szG t0 xs1 = t := ⟨_, rfl⟩
  have T1 := Lib.hid ht1; clear ht1
  go_wp2_with fail
  refine (szIntSS_c _ xs1 t0 _ (H1.out.ext v0) (by omega)).mono ?_
  rw [T1.out]
  rintro e w' ⟨rfl, rfl⟩
  by_cases hz1 : t1 < 0
  · go_wp2
    go_ret
    exact ⟨rfl, v0⟩
  have tr1 : 0 ≤ t1 ∧ t1 ≤ 1048576 := by have h1 := T1.out; have h2 := szG_range (left := t0) (xss := xs1) (by omega); omega
  have S1 := Lib.hid (Small.of_szG (left := t0) (xss := xs1) (by omega) (by have h1 := T1.out; omega))
  go_wp2_with fail
  refine (toIntSS_c _ xs0 _ (H0.out.ext v0) S0.out.len S0.out.row).mono ?_
  rintro e w3 ⟨x3, r3, rfl, o3, u3⟩
  have v3 := v0.trans u3
  have SZ3 := Lib.hid u3.size
  have O3 := Lib.hid o3
  clear o3
  have RS_3 := Lib.hid u3.size
  go_wp2_with fail
  refine (toIntSS_c _ xs1 _ (H1.out.ext v3) S1.out.len S1.out.row).mono ?_
  rintro e w4 ⟨x4, r4, rfl, o4, u4⟩
  have v4 := v3.trans u4
  have SZ4 := Lib.hid u4.size
  have O4 := Lib.hid o4
  clear o4
  have RS_4 := Lib.hid u4.size
  go_wp2_with fail
  refine (specIsP_c _ xs0 _ xs1 a2 a3 a4 a5 _ (O3.out.ext u4).grid O4.out.grid ).mono ?_
  rw [HV0.out]
  rw [HV1.out]
  rintro e w5 ⟨rfl, u5⟩
  have v5 := v4.trans u5
  have SZ5 := Lib.hid u5.size
  go_wp2_with fail
  refine (toIntSS_c _ xs0 _ (H0.out.ext v5) S0.out.len S0.out.row).mono ?_
  rintro e w6 ⟨x6, r6, rfl, o6, u6⟩
  have v6 := v5.trans u6
  have SZ6 := Lib.hid u6.size
  have O6 := Lib.hid o6
  clear o6
  have RS_6 := Lib.hid u6.size
  go_wp2_with fail
  refine (toIntSS_c _ xs1 _ (H1.out.ext v6) S1.out.len S1.out.row).mono ?_
  rintro e w7 ⟨x7, r7, rfl, o7, u7⟩
  have v7 := v6.trans u7
  have SZ7 := Lib.hid u7.size
  have O7 := Lib.hid o7
  clear o7
  have RS_7 := Lib.hid u7.size
  go_wp2_with fail
  refine (implIsP_c _ xs0 _ xs1 a2 a3 a4 a5 _ (O6.out.ext u7).grid O7.out.grid ).mono ?_
  rw [HV0.out]
  rw [HV1.out]
  rintro e w8 ⟨rfl, u8⟩
  have v8 := v7.trans u8
  have SZ8 := Lib.hid u8.size
  go_wp2_with fail
  refine (toIntSS_c _ xs0 _ (H0.out.ext v8) S0.out.len S0.out.row).mono ?_
  rintro e w9 ⟨x9, r9, rfl, o9, u9⟩
  have v9 := v8.trans u9
  have SZ9 := Lib.hid u9.size
  have O9 := Lib.hid o9
  clear o9
  have RS_9 := Lib.hid u9.size
  go_wp2_with fail
  refine (eqIntSS_b true _ _ xs0 xs0 _ (by simp) (((O6.out.ext u7).ext u8).ext u9).grid O9.out.grid).mono ?_
  rintro e w10 ⟨rfl, d10⟩
  have u10 := Drew.ext d10
  have v10 := v9.trans u10
  have SZ10 := Lib.hid u10.size
  go_wp2_with fail
  refine (toIntSS_c _ xs1 _ (H1.out.ext v10) S1.out.len S1.out.row).mono ?_
  rintro e w11 ⟨x11, r11, rfl, o11, u11⟩
  have v11 := v10.trans u11
  have SZ11 := Lib.hid u11.size
  have O11 := Lib.hid o11
  clear o11
  have RS_11 := Lib.hid u11.size
  go_wp2_with fail
  refine (eqIntSS_b true _ _ xs1 xs1 _ (by simp) ((((O7.out.ext u8).ext u9).ext u10).ext u11).grid O11.out.grid).mono ?_
  rintro e w12 ⟨rfl, d12⟩
  have u12 := Drew.ext d12
  have v12 := v11.trans u12
  have SZ12 := Lib.hid u12.size
  go_wp2
  go_ret
  exact ⟨rfl, v12⟩
end Go.Proofs.Ytginndoggpfadaa
