/- The law on GreatestSwaps. -/
import Derived.Test.YtkkoidoinbiikaaGreatS
import Derived.Test.YtkkoidoinbiikaaRgOf
import Derived.Deep.RegionHeld3
namespace Go.Proofs.Ytkkoidoinbiikaa
open Go.RowKit

set_option maxHeartbeats 3200000 in
theorem lawGreatestSwaps_c (v0 : Value) (xs0 : List Vr) (v1 : Value) (xs1 : List Pe) (v2 : Value) (xs2 : List Int) (w : World) (h0 : Vrs w v0 xs0) (h1 : Pes w v1 xs1) (h2 : Ints w v2 xs2) (f0 : WfV xs0) (f1 : WfP xs1) (_ : Wf xs2) :
    Calls Try.prog 3 #[v0, v1, v2] w fun e w' => e = .returned (.bool true) ∧ Ext w w' := by
  have H0 := Lib.hid h0; clear h0
  have F0 := Lib.hid f0; clear f0
  have H1 := Lib.hid h1; clear h1
  have F1 := Lib.hid f1; clear f1
  have H2 := Lib.hid h2
  obtain ⟨ao2, cap2, rfl, p2, q2, r2⟩ := h2
  clear r2
  have v0 := (Ext.refl w)
  by_cases hl2 : (1048576 : Int) < (xs2.length : Int)
  · go_enter Try.func3, Try.ntmps3
    go_wp2
    go_ret
    exact ⟨rfl, v0⟩
  have L2 := Lib.hid (show xs2.length ≤ 1048576 by omega)
  obtain ⟨V0, hV0⟩ : ∃ V, gsV xs0 xs1 xs2 = V := ⟨_, rfl⟩
  have HV0 := Lib.hid hV0; clear hV0
  have qv0 : (V0 != V0) = false := by simp
  have qw0 : decide (V0 = V0) = true := by simp
  obtain ⟨V1, hV1⟩ : ∃ V, gsB xs0 xs1 xs2 = V := ⟨_, rfl⟩
  have HV1 := Lib.hid hV1; clear hV1
  have qv1 : (V1 != V1) = false := by simp
  go_enter Try.func3, Try.ntmps3
  go_wp2_with fail
  refine (szVariableS_c _ xs0 1048576 _ (H0.out.ext v0) F0.out (by omega)).mono ?_
  rintro e w1 ⟨t0, rfl, hr0, u1⟩
  have v1 := v0.trans u1
  have SZ1 := Lib.hid u1.size
  rcases hr0 with hr0 | ⟨hr0, hq0, hs0⟩
  · go_wp2
    go_ret
    exact ⟨rfl, v1⟩
  have hz0 : ¬ (t0 < 0) := by omega
  have tr0 : 0 ≤ t0 ∧ t0 ≤ 1048576 := by omega
  have S0 := Lib.hid hs0; clear hs0 hr0 hq0
  go_wp2_with fail
  refine (szRecordS_c _ xs1 t0 _ (H1.out.ext v1) (by omega)).mono ?_
  rintro e w2 ⟨t1, rfl, hr1, u2⟩
  have v2 := v1.trans u2
  have SZ2 := Lib.hid u2.size
  rcases hr1 with hr1 | ⟨hr1, hq1, hs1⟩
  · go_wp2
    go_ret
    exact ⟨rfl, v2⟩
  have hz1 : ¬ (t1 < 0) := by omega
  have tr1 : 0 ≤ t1 ∧ t1 ≤ 1048576 := by omega
  have S1 := Lib.hid hs1; clear hs1 hr1 hq1
  go_wp2_with fail
  refine (toVariableS_c _ xs0 _ (H0.out.ext v2) S0.out.1).mono ?_
  rintro e w3 ⟨x3, rfl, o3, u3⟩
  have v3 := v2.trans u3
  have SZ3 := Lib.hid u3.size
  have O3 := Lib.hid o3
  clear o3
  have RS_3 := Lib.hid u3.size
  go_wp2_with fail
  refine (toRecordS_c _ xs1 _ (H1.out.ext v3) S1.out).mono ?_
  rintro e w4 ⟨x4, r4, rfl, o4, u4⟩
  have v4 := v3.trans u4
  have SZ4 := Lib.hid u4.size
  have O4 := Lib.hid o4
  clear o4
  have RS_4 := Lib.hid u4.size
  go_wp2_with fail
  refine (toIntS_c _ xs2 _ (H2.out.ext v4) L2.out).mono ?_
  rintro e w5 ⟨x5, rfl, o5, u5⟩
  have v5 := v4.trans u5
  have SZ5 := Lib.hid u5.size
  have O5 := Lib.hid o5
  clear o5
  have RS_5 := Lib.hid u5.size
  go_wp2_with fail
  refine (specGreatestSwaps_c _ xs0 _ xs1 _ xs2 _ ((O3.out.ext u4).ext u5).read (O4.out.ext u5).read O5.out.ints F0.out ).mono ?_
  rw [HV0.out]
  rw [HV1.out]
  rintro e w6 ⟨rfl, u6⟩
  have v6 := v5.trans u6
  have SZ6 := Lib.hid u6.size
  go_wp2_with fail
  refine (toVariableS_c _ xs0 _ (H0.out.ext v6) S0.out.1).mono ?_
  rintro e w7 ⟨x7, rfl, o7, u7⟩
  have v7 := v6.trans u7
  have SZ7 := Lib.hid u7.size
  have O7 := Lib.hid o7
  clear o7
  have RS_7 := Lib.hid u7.size
  go_wp2_with fail
  refine (toRecordS_c _ xs1 _ (H1.out.ext v7) S1.out).mono ?_
  rintro e w8 ⟨x8, r8, rfl, o8, u8⟩
  have v8 := v7.trans u8
  have SZ8 := Lib.hid u8.size
  have O8 := Lib.hid o8
  clear o8
  have RS_8 := Lib.hid u8.size
  go_wp2_with fail
  refine (toIntS_c _ xs2 _ (H2.out.ext v8) L2.out).mono ?_
  rintro e w9 ⟨x9, rfl, o9, u9⟩
  have v9 := v8.trans u9
  have SZ9 := Lib.hid u9.size
  have O9 := Lib.hid o9
  clear o9
  have RS_9 := Lib.hid u9.size
  go_wp2_with fail
  refine (implGreatestSwaps_c _ xs0 _ xs1 _ xs2 _ ((O7.out.ext u8).ext u9).read (O8.out.ext u9).read O9.out.ints F0.out ).mono ?_
  rw [HV0.out]
  rw [HV1.out]
  rintro e w10 ⟨rfl, u10⟩
  have v10 := v9.trans u10
  have SZ10 := Lib.hid u10.size
  go_wp2_with fail
  refine (toVariableS_c _ xs0 _ (H0.out.ext v10) S0.out.1).mono ?_
  rintro e w11 ⟨x11, rfl, o11, u11⟩
  have v11 := v10.trans u11
  have SZ11 := Lib.hid u11.size
  have O11 := Lib.hid o11
  clear o11
  have RS_11 := Lib.hid u11.size
  go_wp2_with fail
  refine (eqVariableS_t _ _ xs0 _ ((((O7.out.ext u8).ext u9).ext u10).ext u11).read O11.out.read).mono ?_
  rintro e w12 ⟨rfl, u12⟩
  have v12 := v11.trans u12
  have SZ12 := Lib.hid u12.size
  go_wp2_with fail
  refine (toRecordS_c _ xs1 _ (H1.out.ext v12) S1.out).mono ?_
  rintro e w13 ⟨x13, r13, rfl, o13, u13⟩
  have v13 := v12.trans u13
  have SZ13 := Lib.hid u13.size
  have O13 := Lib.hid o13
  clear o13
  have RS_13 := Lib.hid u13.size
  go_wp2_with fail
  refine (eqRecordS_t _ _ xs1 _ (((((O8.out.ext u9).ext u10).ext u11).ext u12).ext u13).read O13.out.read).mono ?_
  rintro e w14 ⟨rfl, u14⟩
  have v14 := v13.trans u14
  have SZ14 := Lib.hid u14.size
  go_wp2_with fail
  refine (toIntS_c _ xs2 _ (H2.out.ext v14) L2.out).mono ?_
  rintro e w15 ⟨x15, rfl, o15, u15⟩
  have v15 := v14.trans u15
  have SZ15 := Lib.hid u15.size
  have O15 := Lib.hid o15
  clear o15
  have RS_15 := Lib.hid u15.size
  go_wp2_with fail
  refine (eqIntS_b true _ _ xs2 xs2 _ (by simp) ((((((O9.out.ext u10).ext u11).ext u12).ext u13).ext u14).ext u15).ints O15.out.ints).mono ?_
  rintro e w16 ⟨rfl, d16⟩
  have u16 := Drew.ext d16
  have v16 := v15.trans u16
  have SZ16 := Lib.hid u16.size
  go_wp2
  go_ret
  exact ⟨rfl, v16⟩
end Go.Proofs.Ytkkoidoinbiikaa
