/- The law on KeyGroups. -/
import Derived.Test.YtkkoidoinbiikaaGroups
import Derived.Test.YtkkoidoinbiikaaRgOf
import Derived.Deep.RegionHeld3
namespace Go.Proofs.Ytkkoidoinbiikaa
open Go.RowKit

set_option maxHeartbeats 3200000 in
theorem lawKeyGroups_c (v0 : Value) (xs0 : List Vr) (v1 : Value) (xs1 : List Pe) (v2 : Value) (xs2 : List Int) (w : World) (h0 : Vrs w v0 xs0) (h1 : Pes w v1 xs1) (h2 : Ints w v2 xs2) (f0 : WfV xs0) (f1 : WfP xs1) (_ : Wf xs2) :
    Calls Try.prog 4 #[v0, v1, v2] w fun e w' => e = .returned (.bool true) ∧ Ext w w' := by
  have H0 := Lib.hid h0; clear h0
  have F0 := Lib.hid f0; clear f0
  have H1 := Lib.hid h1; clear h1
  have F1 := Lib.hid f1; clear f1
  have H2 := Lib.hid h2
  obtain ⟨ao2, cap2, rfl, p2, q2, r2⟩ := h2
  clear r2
  have v0 := (Ext.refl w)
  by_cases hl2 : (1048576 : Int) < (xs2.length : Int)
  · go_enter Try.func4, Try.ntmps4
    go_wp2
    go_ret
    exact ⟨rfl, v0⟩
  have L2 := Lib.hid (show xs2.length ≤ 1048576 by omega)
  obtain ⟨V0, hV0⟩ : ∃ V, kgV xs0 xs1 xs2 = V := ⟨_, rfl⟩
  have HV0 := Lib.hid hV0; clear hV0
  obtain ⟨V1, hV1⟩ : ∃ V, kgB xs0 xs1 xs2 = V := ⟨_, rfl⟩
  have HV1 := Lib.hid hV1; clear hV1
  have qv1 : (V1 != V1) = false := by simp
  go_enter Try.func4, Try.ntmps4
  go_wp2_with fail
  refine (szVariableS_c _ xs0 1048576 _ (H0.out.ext v0) F0.out (by omega)).mono ?_
  rintro e w1 ⟨t0, rfl, hr0, u1⟩
  have v1 := v0.trans u1
  have SZ1 := Lib.hid u1.size
  rcases hr0 with hr0 | ⟨hr0, hq0, hs0⟩
  · go_wp2
    go_ret
    exact ⟨rfl, v1⟩
  have hz0 : ¬ (t0 < 0) := by omega
  have tr0 : 0 ≤ t0 ∧ t0 ≤ 1048576 := by omega
  have S0 := Lib.hid hs0; clear hs0 hr0 hq0
  go_wp2_with fail
  refine (szRecordS_c _ xs1 t0 _ (H1.out.ext v1) (by omega)).mono ?_
  rintro e w2 ⟨t1, rfl, hr1, u2⟩
  have v2 := v1.trans u2
  have SZ2 := Lib.hid u2.size
  rcases hr1 with hr1 | ⟨hr1, hq1, hs1⟩
  · go_wp2
    go_ret
    exact ⟨rfl, v2⟩
  have hz1 : ¬ (t1 < 0) := by omega
  have tr1 : 0 ≤ t1 ∧ t1 ≤ 1048576 := by omega
  have S1 := Lib.hid hs1; clear hs1 hr1 hq1
  obtain ⟨k0, hk0⟩ : ∃ k, 1 + 2 * (xs0.length : Int) = k := ⟨_, rfl⟩
  have kb0 : 1 ≤ k0 ∧ k0 ≤ 2097153 := by have h1 := S0.out.1; omega
  have HK0 := Lib.hid hk0; clear hk0
  obtain ⟨k1, hk1⟩ : ∃ k, k0 + (pz xs1 xs1.length : Int) = k := ⟨_, rfl⟩
  have kb1 : 1 ≤ k1 ∧ k1 ≤ 4194305 := by have h1 := S1.out.2.2; omega
  have HK1 := Lib.hid hk1; clear hk1
  obtain ⟨k2, hk2⟩ : ∃ k, k1 + (xs2.length : Int) = k := ⟨_, rfl⟩
  have kb2 : 1 ≤ k2 ∧ k2 ≤ 5242881 := by have h1 := L2.out; omega
  have HK2 := Lib.hid hk2; clear hk2
  have kn : ¬ (k2 < 0) := by omega
  have kd : decide (k2 < 0) = false := by simp; omega
  have RS0 := Lib.hid (show Small V0 by rw [← HV0.out]; exact kgV_small _ _ _)
  obtain ⟨m0, hm0⟩ : ∃ m, 1 + (psum V0 V0.length : Int) = m := ⟨_, rfl⟩
  have mb0 : 1 ≤ m0 ∧ m0 ≤ 1048577 := by have h1 := RS0.out.psum V0.length (Nat.le_refl _); omega
  have HM0 := Lib.hid hm0; clear hm0
  have mn0 : ¬ (m0 < 0) := by omega
  have md0 : decide (m0 < 0) = false := by simp; omega
  have mq : (m0 != m0) = false := by simp
  go_wp2_with fail
  refine (toVariableS_c _ xs0 _ (H0.out.ext v2) S0.out.1).mono ?_
  rintro e w3 ⟨x3, rfl, o3, u3⟩
  have v3 := v2.trans u3
  have SZ3 := Lib.hid u3.size
  have O3 := Lib.hid o3
  clear o3
  have RS_3 := Lib.hid u3.size
  go_wp2_with fail
  refine (toRecordS_c _ xs1 _ (H1.out.ext v3) S1.out).mono ?_
  rintro e w4 ⟨x4, r4, rfl, o4, u4⟩
  have v4 := v3.trans u4
  have SZ4 := Lib.hid u4.size
  have O4 := Lib.hid o4
  clear o4
  have RS_4 := Lib.hid u4.size
  go_wp2_with fail
  refine (toIntS_c _ xs2 _ (H2.out.ext v4) L2.out).mono ?_
  rintro e w5 ⟨x5, rfl, o5, u5⟩
  have v5 := v4.trans u5
  have SZ5 := Lib.hid u5.size
  have O5 := Lib.hid o5
  clear o5
  have RS_5 := Lib.hid u5.size
  go_wp2_with fail
  refine (specKeyGroups_c _ xs0 _ xs1 _ xs2 _ ((O3.out.ext u4).ext u5).read (O4.out.ext u5).read O5.out.ints F0.out ).mono ?_
  rw [HV0.out]
  rw [HV1.out]
  rintro e w6 ⟨x6, r6, rfl, o6, u6⟩
  have v6 := v5.trans u6
  have SZ6 := Lib.hid u6.size
  have O6 := Lib.hid o6
  clear o6
  have RS_6 := Lib.hid u6.size
  go_wp2_with fail
  refine (toVariableS_c _ xs0 _ (H0.out.ext v6) S0.out.1).mono ?_
  rintro e w7 ⟨x7, rfl, o7, u7⟩
  have v7 := v6.trans u7
  have SZ7 := Lib.hid u7.size
  have O7 := Lib.hid o7
  clear o7
  have RS_7 := Lib.hid u7.size
  go_wp2_with fail
  refine (toRecordS_c _ xs1 _ (H1.out.ext v7) S1.out).mono ?_
  rintro e w8 ⟨x8, r8, rfl, o8, u8⟩
  have v8 := v7.trans u8
  have SZ8 := Lib.hid u8.size
  have O8 := Lib.hid o8
  clear o8
  have RS_8 := Lib.hid u8.size
  go_wp2_with fail
  refine (toIntS_c _ xs2 _ (H2.out.ext v8) L2.out).mono ?_
  rintro e w9 ⟨x9, rfl, o9, u9⟩
  have v9 := v8.trans u9
  have SZ9 := Lib.hid u9.size
  have O9 := Lib.hid o9
  clear o9
  have RS_9 := Lib.hid u9.size
  go_wp2_with fail
  refine (implKeyGroups_c _ xs0 _ xs1 _ xs2 _ ((O7.out.ext u8).ext u9).read (O8.out.ext u9).read O9.out.ints F0.out ).mono ?_
  rw [HV0.out]
  rw [HV1.out]
  rintro e w10 ⟨x10, r10, rfl, o10, u10⟩
  have v10 := v9.trans u10
  have SZ10 := Lib.hid u10.size
  have O10 := Lib.hid o10
  clear o10
  have RS_10 := Lib.hid u10.size
  go_wp2_with fail
  refine (eqIntSS_b true _ _ V0 V0 _ (by simp) O10.out.grid ((((O6.out.ext u7).ext u8).ext u9).ext u10).grid).mono ?_
  rintro e w11 ⟨rfl, d11⟩
  have u11 := Drew.ext d11
  have v11 := v10.trans u11
  have SZ11 := Lib.hid u11.size
  go_wp2_with fail
  refine (toVariableS_c _ xs0 _ (H0.out.ext v11) S0.out.1).mono ?_
  rintro e w12 ⟨x12, rfl, o12, u12⟩
  have v12 := v11.trans u12
  have SZ12 := Lib.hid u12.size
  have O12 := Lib.hid o12
  clear o12
  have RS_12 := Lib.hid u12.size
  go_wp2_with fail
  refine (eqVariableS_t _ _ xs0 _ (((((O7.out.ext u8).ext u9).ext u10).ext u11).ext u12).read O12.out.read).mono ?_
  rintro e w13 ⟨rfl, u13⟩
  have v13 := v12.trans u13
  have SZ13 := Lib.hid u13.size
  go_wp2_with fail
  refine (toRecordS_c _ xs1 _ (H1.out.ext v13) S1.out).mono ?_
  rintro e w14 ⟨x14, r14, rfl, o14, u14⟩
  have v14 := v13.trans u14
  have SZ14 := Lib.hid u14.size
  have O14 := Lib.hid o14
  clear o14
  have RS_14 := Lib.hid u14.size
  go_wp2_with fail
  refine (eqRecordS_t _ _ xs1 _ ((((((O8.out.ext u9).ext u10).ext u11).ext u12).ext u13).ext u14).read O14.out.read).mono ?_
  rintro e w15 ⟨rfl, u15⟩
  have v15 := v14.trans u15
  have SZ15 := Lib.hid u15.size
  go_wp2_with fail
  refine (toIntS_c _ xs2 _ (H2.out.ext v15) L2.out).mono ?_
  rintro e w16 ⟨x16, rfl, o16, u16⟩
  have v16 := v15.trans u16
  have SZ16 := Lib.hid u16.size
  have O16 := Lib.hid o16
  clear o16
  have RS_16 := Lib.hid u16.size
  go_wp2_with fail
  refine (eqIntS_b true _ _ xs2 xs2 _ (by simp) (((((((O9.out.ext u10).ext u11).ext u12).ext u13).ext u14).ext u15).ext u16).ints O16.out.ints).mono ?_
  rintro e w17 ⟨rfl, d17⟩
  have u17 := Drew.ext d17
  have v17 := v16.trans u17
  have SZ17 := Lib.hid u17.size
  go_wp2_with fail
  refine (markVariableS_c _ _ _ _ xs0 1 _ ((((((((((O7.out.ext u8).ext u9).ext u10).ext u11).ext u12).ext u13).ext u14).ext u15).ext u16).ext u17) S0.out.1 (by omega)).mono ?_
  rw [HK0.out]
  rintro e w18 ⟨rfl, u18⟩
  have U18 := Lib.hid u18; clear u18
  have RG18 : Hid (∀ b, VB x7 xs0 b → _ ∧ b < _) := Lib.hid (fun b hb => by have := O7.out.range hb.1; rw [hb.2]; exact ⟨this.1, this.2.1⟩)
  have v18 := v17.of_upd U18.out (fun b hb => by have := RG18.out b hb; have := SZ1.out; have := SZ2.out; have := SZ3.out; have := SZ4.out; have := SZ5.out; have := SZ6.out; have := SZ7.out; have := SZ8.out; have := SZ9.out; have := SZ10.out; have := SZ11.out; have := SZ12.out; have := SZ13.out; have := SZ14.out; have := SZ15.out; have := SZ16.out; have := SZ17.out; omega)
  have SZ18 := Lib.hid U18.out.size
  go_wp2_with fail
  refine (markRecordS_c _ _ _ (by decide) _ _ xs1 k0 _ ((((((((((O8.out.ext u9).ext u10).ext u11).ext u12).ext u13).ext u14).ext u15).ext u16).ext u17).away U18.out (fun b hb => by have := RG18.out b hb; have := RS_7.out; have := RS_8.out; have := SZ1.out; have := SZ2.out; have := SZ3.out; have := SZ4.out; have := SZ5.out; have := SZ6.out; have := SZ7.out; have := SZ8.out; have := SZ9.out; have := SZ10.out; have := SZ11.out; have := SZ12.out; have := SZ13.out; have := SZ14.out; have := SZ15.out; have := SZ16.out; have := SZ17.out; have := SZ18.out; omega)) S1.out (by omega)).mono ?_
  rw [HK1.out]
  rintro e w19 ⟨rfl, ⟨ys19, o19, mk19⟩, u19⟩
  have OM19 := Lib.hid o19; clear o19
  have MK19 := Lib.hid mk19; clear mk19
  have U19 := Lib.hid u19; clear u19
  have RG19 : Hid (∀ b, PB x8 r8 xs1 b → _ ∧ b < _) := Lib.hid (fun b hb => by have := O8.out.inside hb; exact ⟨this.1, this.2.1⟩)
  have v19 := v18.of_upd U19.out (fun b hb => by have := RG19.out b hb; have := SZ1.out; have := SZ2.out; have := SZ3.out; have := SZ4.out; have := SZ5.out; have := SZ6.out; have := SZ7.out; have := SZ8.out; have := SZ9.out; have := SZ10.out; have := SZ11.out; have := SZ12.out; have := SZ13.out; have := SZ14.out; have := SZ15.out; have := SZ16.out; have := SZ17.out; have := SZ18.out; omega)
  have SZ19 := Lib.hid U19.out.size
  go_wp2_with fail
  refine (markIntS_c _ _ _ xs2 k1 _ ((((((((((O9.out.ext u10).ext u11).ext u12).ext u13).ext u14).ext u15).ext u16).ext u17).away U18.out (fun b hb => by have := RG18.out b hb; have := RS_7.out; have := RS_9.out; have := SZ1.out; have := SZ2.out; have := SZ3.out; have := SZ4.out; have := SZ5.out; have := SZ6.out; have := SZ7.out; have := SZ8.out; have := SZ9.out; have := SZ10.out; have := SZ11.out; have := SZ12.out; have := SZ13.out; have := SZ14.out; have := SZ15.out; have := SZ16.out; have := SZ17.out; have := SZ18.out; have := SZ19.out; omega)).away U19.out (fun b hb => by have := RG19.out b hb; have := RS_8.out; have := RS_9.out; have := SZ1.out; have := SZ2.out; have := SZ3.out; have := SZ4.out; have := SZ5.out; have := SZ6.out; have := SZ7.out; have := SZ8.out; have := SZ9.out; have := SZ10.out; have := SZ11.out; have := SZ12.out; have := SZ13.out; have := SZ14.out; have := SZ15.out; have := SZ16.out; have := SZ17.out; have := SZ18.out; have := SZ19.out; omega)) L2.out (by omega)).mono ?_
  rw [HK2.out]
  rintro e w20 ⟨rfl, o20, u20⟩
  have OM20 := Lib.hid o20; clear o20
  have U20 := Lib.hid u20; clear u20
  have RG20 : Hid (∀ b, (xs2 ≠ [] ∧ b = blk x9) → _ ∧ b < _) := Lib.hid (fun b hb => by have := O9.out.range hb.1; rw [hb.2]; exact ⟨this.1, this.2.1⟩)
  have v20 := v19.of_upd U20.out (fun b hb => by have := RG20.out b hb; have := SZ1.out; have := SZ2.out; have := SZ3.out; have := SZ4.out; have := SZ5.out; have := SZ6.out; have := SZ7.out; have := SZ8.out; have := SZ9.out; have := SZ10.out; have := SZ11.out; have := SZ12.out; have := SZ13.out; have := SZ14.out; have := SZ15.out; have := SZ16.out; have := SZ17.out; have := SZ18.out; have := SZ19.out; omega)
  have SZ20 := Lib.hid U20.out.size
  go_wp2_with fail
  refine (eqIntSS_b true _ _ V0 V0 _ (by simp) ((((((((((O10.out.ext u11).ext u12).ext u13).ext u14).ext u15).ext u16).ext u17).away U18.out (fun b hb => by have := RG18.out b hb; have := RS_7.out; have := RS_10.out; have := SZ1.out; have := SZ2.out; have := SZ3.out; have := SZ4.out; have := SZ5.out; have := SZ6.out; have := SZ7.out; have := SZ8.out; have := SZ9.out; have := SZ10.out; have := SZ11.out; have := SZ12.out; have := SZ13.out; have := SZ14.out; have := SZ15.out; have := SZ16.out; have := SZ17.out; have := SZ18.out; have := SZ19.out; have := SZ20.out; omega)).away U19.out (fun b hb => by have := RG19.out b hb; have := RS_8.out; have := RS_10.out; have := SZ1.out; have := SZ2.out; have := SZ3.out; have := SZ4.out; have := SZ5.out; have := SZ6.out; have := SZ7.out; have := SZ8.out; have := SZ9.out; have := SZ10.out; have := SZ11.out; have := SZ12.out; have := SZ13.out; have := SZ14.out; have := SZ15.out; have := SZ16.out; have := SZ17.out; have := SZ18.out; have := SZ19.out; have := SZ20.out; omega)).away U20.out (fun b hb => by have := RG20.out b hb; have := RS_9.out; have := RS_10.out; have := SZ1.out; have := SZ2.out; have := SZ3.out; have := SZ4.out; have := SZ5.out; have := SZ6.out; have := SZ7.out; have := SZ8.out; have := SZ9.out; have := SZ10.out; have := SZ11.out; have := SZ12.out; have := SZ13.out; have := SZ14.out; have := SZ15.out; have := SZ16.out; have := SZ17.out; have := SZ18.out; have := SZ19.out; have := SZ20.out; omega)).grid ((((((((((((((O6.out.ext u7).ext u8).ext u9).ext u10).ext u11).ext u12).ext u13).ext u14).ext u15).ext u16).ext u17).away U18.out (fun b hb => by have := RG18.out b hb; have := RS_7.out; have := RS_6.out; have := SZ1.out; have := SZ2.out; have := SZ3.out; have := SZ4.out; have := SZ5.out; have := SZ6.out; have := SZ7.out; have := SZ8.out; have := SZ9.out; have := SZ10.out; have := SZ11.out; have := SZ12.out; have := SZ13.out; have := SZ14.out; have := SZ15.out; have := SZ16.out; have := SZ17.out; have := SZ18.out; have := SZ19.out; have := SZ20.out; omega)).away U19.out (fun b hb => by have := RG19.out b hb; have := RS_8.out; have := RS_6.out; have := SZ1.out; have := SZ2.out; have := SZ3.out; have := SZ4.out; have := SZ5.out; have := SZ6.out; have := SZ7.out; have := SZ8.out; have := SZ9.out; have := SZ10.out; have := SZ11.out; have := SZ12.out; have := SZ13.out; have := SZ14.out; have := SZ15.out; have := SZ16.out; have := SZ17.out; have := SZ18.out; have := SZ19.out; have := SZ20.out; omega)).away U20.out (fun b hb => by have := RG20.out b hb; have := RS_9.out; have := RS_6.out; have := SZ1.out; have := SZ2.out; have := SZ3.out; have := SZ4.out; have := SZ5.out; have := SZ6.out; have := SZ7.out; have := SZ8.out; have := SZ9.out; have := SZ10.out; have := SZ11.out; have := SZ12.out; have := SZ13.out; have := SZ14.out; have := SZ15.out; have := SZ16.out; have := SZ17.out; have := SZ18.out; have := SZ19.out; have := SZ20.out; omega)).grid).mono ?_
  rintro e w21 ⟨rfl, d21⟩
  have u21 := Drew.ext d21
  have v21 := v20.trans u21
  have SZ21 := Lib.hid u21.size
  go_wp2_with fail
  refine (markIntSS_c _ _ _ _ V0 1 _ (((((((((((O10.out.ext u11).ext u12).ext u13).ext u14).ext u15).ext u16).ext u17).away U18.out (fun b hb => by have := RG18.out b hb; have := RS_7.out; have := RS_10.out; have := SZ1.out; have := SZ2.out; have := SZ3.out; have := SZ4.out; have := SZ5.out; have := SZ6.out; have := SZ7.out; have := SZ8.out; have := SZ9.out; have := SZ10.out; have := SZ11.out; have := SZ12.out; have := SZ13.out; have := SZ14.out; have := SZ15.out; have := SZ16.out; have := SZ17.out; have := SZ18.out; have := SZ19.out; have := SZ20.out; have := SZ21.out; omega)).away U19.out (fun b hb => by have := RG19.out b hb; have := RS_8.out; have := RS_10.out; have := SZ1.out; have := SZ2.out; have := SZ3.out; have := SZ4.out; have := SZ5.out; have := SZ6.out; have := SZ7.out; have := SZ8.out; have := SZ9.out; have := SZ10.out; have := SZ11.out; have := SZ12.out; have := SZ13.out; have := SZ14.out; have := SZ15.out; have := SZ16.out; have := SZ17.out; have := SZ18.out; have := SZ19.out; have := SZ20.out; have := SZ21.out; omega)).away U20.out (fun b hb => by have := RG20.out b hb; have := RS_9.out; have := RS_10.out; have := SZ1.out; have := SZ2.out; have := SZ3.out; have := SZ4.out; have := SZ5.out; have := SZ6.out; have := SZ7.out; have := SZ8.out; have := SZ9.out; have := SZ10.out; have := SZ11.out; have := SZ12.out; have := SZ13.out; have := SZ14.out; have := SZ15.out; have := SZ16.out; have := SZ17.out; have := SZ18.out; have := SZ19.out; have := SZ20.out; have := SZ21.out; omega)).ext u21) RS0.out.row RS0.out.psum (by omega)).mono ?_
  rw [HM0.out]
  rintro e w22 ⟨rfl, ⟨ys22, o22, mk22⟩, u22⟩
  have OM22 := Lib.hid o22; clear o22
  have MK22 := Lib.hid mk22; clear mk22
  have U22 := Lib.hid u22; clear u22
  have RG22 : Hid (∀ b, rowBlks r10 V0 b → _ ∧ b < _) := Lib.hid (fun b hb => by have := O10.out.blks hb; exact ⟨this.1, this.2.1⟩)
  have v22 := v21.of_upd U22.out (fun b hb => by have := RG22.out b hb; have := SZ1.out; have := SZ2.out; have := SZ3.out; have := SZ4.out; have := SZ5.out; have := SZ6.out; have := SZ7.out; have := SZ8.out; have := SZ9.out; have := SZ10.out; have := SZ11.out; have := SZ12.out; have := SZ13.out; have := SZ14.out; have := SZ15.out; have := SZ16.out; have := SZ17.out; have := SZ18.out; have := SZ19.out; have := SZ20.out; have := SZ21.out; omega)
  have SZ22 := Lib.hid U22.out.size
  go_wp2_with fail
  refine (heldIntSS_c _ V0 _ 1 _ OM22.out.grid MK22.out RS0.out.row RS0.out.psum (by omega)).mono ?_
  rw [HM0.out]
  rintro e w22 ⟨rfl, rfl⟩
  go_wp2_with fail
  refine (toVariableS_c _ xs0 _ (H0.out.ext v22) S0.out.1).mono ?_
  rintro e w24 ⟨x24, rfl, o24, u24⟩
  have v24 := v22.trans u24
  have SZ24 := Lib.hid u24.size
  have O24 := Lib.hid o24
  clear o24
  have RS_24 := Lib.hid u24.size
  go_wp2_with fail
  refine (toRecordS_c _ xs1 _ (H1.out.ext v24) S1.out).mono ?_
  rintro e w25 ⟨x25, r25, rfl, o25, u25⟩
  have v25 := v24.trans u25
  have SZ25 := Lib.hid u25.size
  have O25 := Lib.hid o25
  clear o25
  have RS_25 := Lib.hid u25.size
  go_wp2_with fail
  refine (toIntS_c _ xs2 _ (H2.out.ext v25) L2.out).mono ?_
  rintro e w26 ⟨x26, rfl, o26, u26⟩
  have v26 := v25.trans u26
  have SZ26 := Lib.hid u26.size
  have O26 := Lib.hid o26
  clear o26
  have RS_26 := Lib.hid u26.size
  go_wp2_with fail
  refine (implKeyGroups_c _ xs0 _ xs1 _ xs2 _ ((O24.out.ext u25).ext u26).read (O25.out.ext u26).read O26.out.ints F0.out ).mono ?_
  rw [HV0.out]
  rw [HV1.out]
  rintro e w27 ⟨x27, r27, rfl, o27, u27⟩
  have v27 := v26.trans u27
  have SZ27 := Lib.hid u27.size
  have O27 := Lib.hid o27
  clear o27
  have RS_27 := Lib.hid u27.size
  go_wp2_with fail
  refine (eqIntSS_b true _ _ V0 V0 _ (by simp) O27.out.grid ((((((((((((((((((((O6.out.ext u7).ext u8).ext u9).ext u10).ext u11).ext u12).ext u13).ext u14).ext u15).ext u16).ext u17).away U18.out (fun b hb => by have := RG18.out b hb; have := RS_7.out; have := RS_6.out; have := SZ1.out; have := SZ2.out; have := SZ3.out; have := SZ4.out; have := SZ5.out; have := SZ6.out; have := SZ7.out; have := SZ8.out; have := SZ9.out; have := SZ10.out; have := SZ11.out; have := SZ12.out; have := SZ13.out; have := SZ14.out; have := SZ15.out; have := SZ16.out; have := SZ17.out; have := SZ18.out; have := SZ19.out; have := SZ20.out; have := SZ21.out; have := SZ22.out; have := SZ24.out; have := SZ25.out; have := SZ26.out; have := SZ27.out; omega)).away U19.out (fun b hb => by have := RG19.out b hb; have := RS_8.out; have := RS_6.out; have := SZ1.out; have := SZ2.out; have := SZ3.out; have := SZ4.out; have := SZ5.out; have := SZ6.out; have := SZ7.out; have := SZ8.out; have := SZ9.out; have := SZ10.out; have := SZ11.out; have := SZ12.out; have := SZ13.out; have := SZ14.out; have := SZ15.out; have := SZ16.out; have := SZ17.out; have := SZ18.out; have := SZ19.out; have := SZ20.out; have := SZ21.out; have := SZ22.out; have := SZ24.out; have := SZ25.out; have := SZ26.out; have := SZ27.out; omega)).away U20.out (fun b hb => by have := RG20.out b hb; have := RS_9.out; have := RS_6.out; have := SZ1.out; have := SZ2.out; have := SZ3.out; have := SZ4.out; have := SZ5.out; have := SZ6.out; have := SZ7.out; have := SZ8.out; have := SZ9.out; have := SZ10.out; have := SZ11.out; have := SZ12.out; have := SZ13.out; have := SZ14.out; have := SZ15.out; have := SZ16.out; have := SZ17.out; have := SZ18.out; have := SZ19.out; have := SZ20.out; have := SZ21.out; have := SZ22.out; have := SZ24.out; have := SZ25.out; have := SZ26.out; have := SZ27.out; omega)).ext u21).away U22.out (fun b hb => by have := RG22.out b hb; have := RS_10.out; have := RS_6.out; have := SZ1.out; have := SZ2.out; have := SZ3.out; have := SZ4.out; have := SZ5.out; have := SZ6.out; have := SZ7.out; have := SZ8.out; have := SZ9.out; have := SZ10.out; have := SZ11.out; have := SZ12.out; have := SZ13.out; have := SZ14.out; have := SZ15.out; have := SZ16.out; have := SZ17.out; have := SZ18.out; have := SZ19.out; have := SZ20.out; have := SZ21.out; have := SZ22.out; have := SZ24.out; have := SZ25.out; have := SZ26.out; have := SZ27.out; omega)).ext u24).ext u25).ext u26).ext u27).grid).mono ?_
  rintro e w28 ⟨rfl, d28⟩
  have u28 := Drew.ext d28
  have v28 := v27.trans u28
  have SZ28 := Lib.hid u28.size
  go_wp2_with fail
  refine (heldIntSS_c _ V0 _ 1 _ (((((OM22.out.ext u24).ext u25).ext u26).ext u27).ext u28).grid MK22.out RS0.out.row RS0.out.psum (by omega)).mono ?_
  rw [HM0.out]
  rintro e w28 ⟨rfl, rfl⟩
  go_wp2
  go_ret
  exact ⟨rfl, v28⟩
end Go.Proofs.Ytkkoidoinbiikaa
