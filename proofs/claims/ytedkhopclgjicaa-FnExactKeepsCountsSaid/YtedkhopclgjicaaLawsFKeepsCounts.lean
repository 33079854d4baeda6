/- The law on KeepsCounts. -/
import Derived.Test.YtedkhopclgjicaaKeeps
import Derived.Test.YtedkhopclgjicaaRgOf
import Derived.Deep.RegionHeld3
namespace Go.Proofs.Ytedkhopclgjicaa
open Go.RowKit

set_option maxHeartbeats 3200000 in
theorem lawKeepsCounts_c (v0 : Value) (xs0 : List Vr) (v1 : Value) (xs1 : List Pe) (v2 : Value) (xs2 : List Pe) (v3 : Value) (xs3 : List Int) (w : World) (h0 : Vrs w v0 xs0) (h1 : Pes w v1 xs1) (h2 : Pes w v2 xs2) (h3 : Ints w v3 xs3) (f0 : WfV xs0) (f1 : WfP xs1) (f2 : WfP xs2) (_ : Wf xs3) :
    Calls Try.prog 3 #[v0, v1, v2, v3] w fun e w' => e = .returned (.bool true) ∧ Ext w w' := by
  have H0 := Lib.hid h0; clear h0
  have F0 := Lib.hid f0; clear f0
  have H1 := Lib.hid h1; clear h1
  have F1 := Lib.hid f1; clear f1
  have H2 := Lib.hid h2; clear h2
  have F2 := Lib.hid f2; clear f2
  have H3 := Lib.hid h3
  obtain ⟨ao3, cap3, rfl, p3, q3, r3⟩ := h3
  clear r3
  have v0 := (Ext.refl w)
  by_cases hl3 : (1048576 : Int) < (xs3.length : Int)
  · go_enter Try.func3, Try.ntmps3
    go_wp2
    go_ret
    exact ⟨rfl, v0⟩
  have L3 := Lib.hid (show xs3.length ≤ 1048576 by omega)
  obtain ⟨V0, hV0⟩ : ∃ V, kcV xs0 xs1 xs2 xs3 = V := ⟨_, rfl⟩
  have HV0 := Lib.hid hV0; clear hV0
  have qv0 : (V0 != V0) = false := by simp
  obtain ⟨V1, hV1⟩ : ∃ V, kcB xs0 xs1 xs2 xs3 = V := ⟨_, rfl⟩
  have HV1 := Lib.hid hV1; clear hV1
  have qv1 : (V1 != V1) = false := by simp
  go_enter Try.func3, Try.ntmps3
  go_wp2_with fail
  refine (szVariableS_c _ xs0 1048576 _ (H0.out.ext v0) F0.out (by omega)).mono ?_
  rintro e w1 ⟨t0, rfl, hr0, u1⟩
  have v1 := v0.trans u1
  have SZ1 := Lib.hid u1.size
  rcases hr0 with hr0 | ⟨hr0, hq0, hs0⟩
  · go_wp2
    go_ret
    exact ⟨rfl, v1⟩
  have hz0 : ¬ (t0 < 0) := by omega
  have tr0 : 0 ≤ t0 ∧ t0 ≤ 1048576 := by omega
  have S0 := Lib.hid hs0; clear hs0 hr0 hq0
  go_wp2_with fail
  refine (szRecordS_c _ xs1 t0 _ (H1.out.ext v1) (by omega)).mono ?_
  rintro e w2 ⟨t1, rfl, hr1, u2⟩
  have v2 := v1.trans u2
  have SZ2 := Lib.hid u2.size
  rcases hr1 with hr1 | ⟨hr1, hq1, hs1⟩
  · go_wp2
    go_ret
    exact ⟨rfl, v2⟩
  have hz1 : ¬ (t1 < 0) := by omega
  have tr1 : 0 ≤ t1 ∧ t1 ≤ 1048576 := by omega
  have S1 := Lib.hid hs1; clear hs1 hr1 hq1
  go_wp2_with fail
  refine (szRecordS_c _ xs2 t1 _ (H2.out.ext v2) (by omega)).mono ?_
  rintro e w3 ⟨t2, rfl, hr2, u3⟩
  have v3 := v2.trans u3
  have SZ3 := Lib.hid u3.size
  rcases hr2 with hr2 | ⟨hr2, hq2, hs2⟩
  · go_wp2
    go_ret
    exact ⟨rfl, v3⟩
  have hz2 : ¬ (t2 < 0) := by omega
  have tr2 : 0 ≤ t2 ∧ t2 ≤ 1048576 := by omega
  have S2 := Lib.hid hs2; clear hs2 hr2 hq2
  go_wp2_with fail
  refine (toVariableS_c _ xs0 _ (H0.out.ext v3) S0.out.1).mono ?_
  rintro e w4 ⟨x4, rfl, o4, u4⟩
  have v4 := v3.trans u4
  have SZ4 := Lib.hid u4.size
  have O4 := Lib.hid o4
  clear o4
  have RS_4 := Lib.hid u4.size
  go_wp2_with fail
  refine (toRecordS_c _ xs1 _ (H1.out.ext v4) S1.out).mono ?_
  rintro e w5 ⟨x5, r5, rfl, o5, u5⟩
  have v5 := v4.trans u5
  have SZ5 := Lib.hid u5.size
  have O5 := Lib.hid o5
  clear o5
  have RS_5 := Lib.hid u5.size
  go_wp2_with fail
  refine (toRecordS_c _ xs2 _ (H2.out.ext v5) S2.out).mono ?_
  rintro e w6 ⟨x6, r6, rfl, o6, u6⟩
  have v6 := v5.trans u6
  have SZ6 := Lib.hid u6.size
  have O6 := Lib.hid o6
  clear o6
  have RS_6 := Lib.hid u6.size
  go_wp2_with fail
  refine (toIntS_c _ xs3 _ (H3.out.ext v6) L3.out).mono ?_
  rintro e w7 ⟨x7, rfl, o7, u7⟩
  have v7 := v6.trans u7
  have SZ7 := Lib.hid u7.size
  have O7 := Lib.hid o7
  clear o7
  have RS_7 := Lib.hid u7.size
  go_wp2_with fail
  refine (specKeepsCounts_c _ xs0 _ xs1 _ xs2 _ xs3 _ (((O4.out.ext u5).ext u6).ext u7).read ((O5.out.ext u6).ext u7).read (O6.out.ext u7).read O7.out.ints F0.out ).mono ?_
  rw [HV0.out]
  rw [HV1.out]
  rintro e w8 ⟨rfl, u8⟩
  have v8 := v7.trans u8
  have SZ8 := Lib.hid u8.size
  go_wp2_with fail
  refine (toVariableS_c _ xs0 _ (H0.out.ext v8) S0.out.1).mono ?_
  rintro e w9 ⟨x9, rfl, o9, u9⟩
  have v9 := v8.trans u9
  have SZ9 := Lib.hid u9.size
  have O9 := Lib.hid o9
  clear o9
  have RS_9 := Lib.hid u9.size
  go_wp2_with fail
  refine (toRecordS_c _ xs1 _ (H1.out.ext v9) S1.out).mono ?_
  rintro e w10 ⟨x10, r10, rfl, o10, u10⟩
  have v10 := v9.trans u10
  have SZ10 := Lib.hid u10.size
  have O10 := Lib.hid o10
  clear o10
  have RS_10 := Lib.hid u10.size
  go_wp2_with fail
  refine (toRecordS_c _ xs2 _ (H2.out.ext v10) S2.out).mono ?_
  rintro e w11 ⟨x11, r11, rfl, o11, u11⟩
  have v11 := v10.trans u11
  have SZ11 := Lib.hid u11.size
  have O11 := Lib.hid o11
  clear o11
  have RS_11 := Lib.hid u11.size
  go_wp2_with fail
  refine (toIntS_c _ xs3 _ (H3.out.ext v11) L3.out).mono ?_
  rintro e w12 ⟨x12, rfl, o12, u12⟩
  have v12 := v11.trans u12
  have SZ12 := Lib.hid u12.size
  have O12 := Lib.hid o12
  clear o12
  have RS_12 := Lib.hid u12.size
  go_wp2_with fail
  refine (implKeepsCounts_c _ xs0 _ xs1 _ xs2 _ xs3 _ (((O9.out.ext u10).ext u11).ext u12).read ((O10.out.ext u11).ext u12).read (O11.out.ext u12).read O12.out.ints F0.out ).mono ?_
  rw [HV0.out]
  rw [HV1.out]
  rintro e w13 ⟨rfl, u13⟩
  have v13 := v12.trans u13
  have SZ13 := Lib.hid u13.size
  go_wp2_with fail
  refine (toVariableS_c _ xs0 _ (H0.out.ext v13) S0.out.1).mono ?_
  rintro e w14 ⟨x14, rfl, o14, u14⟩
  have v14 := v13.trans u14
  have SZ14 := Lib.hid u14.size
  have O14 := Lib.hid o14
  clear o14
  have RS_14 := Lib.hid u14.size
  go_wp2_with fail
  refine (eqVariableS_t _ _ xs0 _ (((((O9.out.ext u10).ext u11).ext u12).ext u13).ext u14).read O14.out.read).mono ?_
  rintro e w15 ⟨rfl, u15⟩
  have v15 := v14.trans u15
  have SZ15 := Lib.hid u15.size
  go_wp2_with fail
  refine (toRecordS_c _ xs1 _ (H1.out.ext v15) S1.out).mono ?_
  rintro e w16 ⟨x16, r16, rfl, o16, u16⟩
  have v16 := v15.trans u16
  have SZ16 := Lib.hid u16.size
  have O16 := Lib.hid o16
  clear o16
  have RS_16 := Lib.hid u16.size
  go_wp2_with fail
  refine (eqRecordS_t _ _ xs1 _ ((((((O10.out.ext u11).ext u12).ext u13).ext u14).ext u15).ext u16).read O16.out.read).mono ?_
  rintro e w17 ⟨rfl, u17⟩
  have v17 := v16.trans u17
  have SZ17 := Lib.hid u17.size
  go_wp2_with fail
  refine (toRecordS_c _ xs2 _ (H2.out.ext v17) S2.out).mono ?_
  rintro e w18 ⟨x18, r18, rfl, o18, u18⟩
  have v18 := v17.trans u18
  have SZ18 := Lib.hid u18.size
  have O18 := Lib.hid o18
  clear o18
  have RS_18 := Lib.hid u18.size
  go_wp2_with fail
  refine (eqRecordS_t _ _ xs2 _ (((((((O11.out.ext u12).ext u13).ext u14).ext u15).ext u16).ext u17).ext u18).read O18.out.read).mono ?_
  rintro e w19 ⟨rfl, u19⟩
  have v19 := v18.trans u19
  have SZ19 := Lib.hid u19.size
  go_wp2_with fail
  refine (toIntS_c _ xs3 _ (H3.out.ext v19) L3.out).mono ?_
  rintro e w20 ⟨x20, rfl, o20, u20⟩
  have v20 := v19.trans u20
  have SZ20 := Lib.hid u20.size
  have O20 := Lib.hid o20
  clear o20
  have RS_20 := Lib.hid u20.size
  go_wp2_with fail
  refine (eqIntS_b true _ _ xs3 xs3 _ (by simp) ((((((((O12.out.ext u13).ext u14).ext u15).ext u16).ext u17).ext u18).ext u19).ext u20).ints O20.out.ints).mono ?_
  rintro e w21 ⟨rfl, d21⟩
  have u21 := Drew.ext d21
  have v21 := v20.trans u21
  have SZ21 := Lib.hid u21.size
  go_wp2
  go_ret
  exact ⟨rfl, v21⟩
end Go.Proofs.Ytedkhopclgjicaa
