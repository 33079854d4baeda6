/- The law on OriginalBounds. -/
import Derived.Test.YtmffhipfodlomaaOb
import Derived.Test.YtmffhipfodlomaaRgOf
import Derived.Deep.RegionHeld3
namespace Go.Proofs.Ytmffhipfodlomaa
open Go.RowKit

theorem ob_small {f : Nat → Nat → Int → Int} {y : List (List Int)} {base : Int} {X : List (List Int)} (hX : X = if obB y base = true then mapG f y else []) : Small X := by
  subst hX
  split
  · rename_i h
    simp only [obB, Bool.and_eq_true] at h
    have g := gridB_true.1 h.1.1
    apply Small.of_rows8 (by rw [mapG_length]; omega)
    intro k hk
    rw [mapG_length] at hk
    rw [rowAt_mapG hk, rowF_length]; have := (g.2.2.2.2 k hk).1; omega
  · exact Small.of_rows8 (by simp) (fun k hk => by simp at hk)

set_option maxHeartbeats 3200000 in
theorem lawOriginalBounds_c (v0 : Value) (xs0 : List (List Int)) (a1 : Int) (w : World) (h0 : Grid w v0 xs0) (_ : WfG xs0) (i1 : -9223372036854775808 ≤ a1 ∧ a1 ≤ 9223372036854775807) :
    Calls Try.prog 8 #[v0, .int .i64 a1] w fun e w' => e = .returned (.bool true) ∧ Ext w w' := by
  have H0 := Lib.hid h0; clear h0
  have I1 := Lib.hid i1; clear i1
  have v0 := (Ext.refl w)
  obtain ⟨V0, hV0⟩ : ∃ V, obL xs0 a1 = V := ⟨_, rfl⟩
  have HV0 := Lib.hid hV0; clear hV0
  obtain ⟨V1, hV1⟩ : ∃ V, obH xs0 a1 = V := ⟨_, rfl⟩
  have HV1 := Lib.hid hV1; clear hV1
  obtain ⟨V2, hV2⟩ : ∃ V, obB xs0 a1 = V := ⟨_, rfl⟩
  have HV2 := Lib.hid hV2; clear hV2
  have qv2 : (V2 != V2) = false := by simp
  go_enter Try.func8, Try.ntmps8
  obtain ⟨t0, ht0⟩ : ∃ t, szG 1048576 xs0 = t := ⟨_, rfl⟩
  have T0 := Lib.hid ht0; clear ht0
  go_wp2_with fail
  refine (szIntSS_c _ xs0 1048576 _ (H0.out.ext v0) (by omega)).mono ?_
  rw [T0.out]
  rintro e w' ⟨rfl, rfl⟩
  by_cases hz0 : t0 < 0
  · go_wp2
    go_ret
    exact ⟨rfl, v0⟩
  have tr0 : 0 ≤ t0 ∧ t0 ≤ 1048576 := by have h1 := T0.out; have h2 := szG_range (left := 1048576) (xss := xs0) (by omega); omega
  have S0 := Lib.hid (Small.of_szG (left := 1048576) (xss := xs0) (by omega) (by have h1 := T0.out; omega))
  obtain ⟨k0, hk0⟩ : ∃ k, 1 + (psum xs0 xs0.length : Int) = k := ⟨_, rfl⟩
  have kb0 : 1 ≤ k0 ∧ k0 ≤ 1048577 := by have h1 := S0.out.psum xs0.length (Nat.le_refl _); omega
  have HK0 := Lib.hid hk0; clear hk0
  have kn : ¬ (k0 < 0) := by omega
  have kd : decide (k0 < 0) = false := by simp; omega
  have RS0 := Lib.hid (show Small V0 by rw [← HV0.out]; exact ob_small rfl)
  obtain ⟨m0, hm0⟩ : ∃ m, 1 + (psum V0 V0.length : Int) = m := ⟨_, rfl⟩
  have mb0 : 1 ≤ m0 ∧ m0 ≤ 1048577 := by have h1 := RS0.out.psum V0.length (Nat.le_refl _); omega
  have HM0 := Lib.hid hm0; clear hm0
  have mn0 : ¬ (m0 < 0) := by omega
  have md0 : decide (m0 < 0) = false := by simp; omega
  have RS1 := Lib.hid (show Small V1 by rw [← HV1.out]; exact ob_small rfl)
  obtain ⟨m1, hm1⟩ : ∃ m, m0 + (psum V1 V1.length : Int) = m := ⟨_, rfl⟩
  have mb1 : 1 ≤ m1 ∧ m1 ≤ 2097153 := by have h1 := RS1.out.psum V1.length (Nat.le_refl _); omega
  have HM1 := Lib.hid hm1; clear hm1
  have mn1 : ¬ (m1 < 0) := by omega
  have md1 : decide (m1 < 0) = false := by simp; omega
  have mq : (m1 != m1) = false := by simp
  go_wp2_with fail
  refine (toIntSS_c _ xs0 _ (H0.out.ext v0) S0.out.len S0.out.row).mono ?_
  rintro e w2 ⟨x2, r2, rfl, o2, u2⟩
  have v2 := v0.trans u2
  have SZ2 := Lib.hid u2.size
  have O2 := Lib.hid o2
  clear o2
  have RS_2 := Lib.hid u2.size
  go_wp2_with fail
  refine (specOb_c _ xs0 a1 _ O2.out.grid ).mono ?_
  rw [HV0.out]
  rw [HV1.out]
  rw [HV2.out]
  rintro e w3 ⟨x3, r3, x4, r4, mid3, rfl, ml3, mh3, o3, o4, u3⟩
  have v3 := v2.trans u3
  have SZ3 := Lib.hid u3.size
  have O3 := Lib.hid o3; clear o3
  have O4 := Lib.hid o4; clear o4
  have RS_3 := Lib.hid ml3; clear ml3
  have RS_4 := Lib.hid mh3; clear mh3
  go_wp2_with fail
  refine (toIntSS_c _ xs0 _ (H0.out.ext v3) S0.out.len S0.out.row).mono ?_
  rintro e w5 ⟨x5, r5, rfl, o5, u5⟩
  have v5 := v3.trans u5
  have SZ5 := Lib.hid u5.size
  have O5 := Lib.hid o5
  clear o5
  have RS_5 := Lib.hid u5.size
  go_wp2_with fail
  refine (implOb_c _ xs0 a1 _ O5.out.grid ).mono ?_
  rw [HV0.out]
  rw [HV1.out]
  rw [HV2.out]
  rintro e w6 ⟨x6, r6, x7, r7, mid6, rfl, ml6, mh6, o6, o7, u6⟩
  have v6 := v5.trans u6
  have SZ6 := Lib.hid u6.size
  have O6 := Lib.hid o6; clear o6
  have O7 := Lib.hid o7; clear o7
  have RS_6 := Lib.hid ml6; clear ml6
  have RS_7 := Lib.hid mh6; clear mh6
  go_wp2_with fail
  refine (eqIntSS_b true _ _ V0 V0 _ (by simp) O6.out.grid ((O3.out.ext u5).ext u6).grid).mono ?_
  rintro e w8 ⟨rfl, d8⟩
  have u8 := Drew.ext d8
  have v8 := v6.trans u8
  have SZ8 := Lib.hid u8.size
  go_wp2_with fail
  refine (eqIntSS_b true _ _ V1 V1 _ (by simp) (O7.out.ext u8).grid (((O4.out.ext u5).ext u6).ext u8).grid).mono ?_
  rintro e w9 ⟨rfl, d9⟩
  have u9 := Drew.ext d9
  have v9 := v8.trans u9
  have SZ9 := Lib.hid u9.size
  go_wp2_with fail
  refine (toIntSS_c _ xs0 _ (H0.out.ext v9) S0.out.len S0.out.row).mono ?_
  rintro e w10 ⟨x10, r10, rfl, o10, u10⟩
  have v10 := v9.trans u10
  have SZ10 := Lib.hid u10.size
  have O10 := Lib.hid o10
  clear o10
  have RS_10 := Lib.hid u10.size
  go_wp2_with fail
  refine (eqIntSS_b true _ _ xs0 xs0 _ (by simp) ((((O5.out.ext u6).ext u8).ext u9).ext u10).grid O10.out.grid).mono ?_
  rintro e w11 ⟨rfl, d11⟩
  have u11 := Drew.ext d11
  have v11 := v10.trans u11
  have SZ11 := Lib.hid u11.size
  go_wp2_with fail
  refine (markIntSS_c _ _ _ _ xs0 1 _ (((((O5.out.ext u6).ext u8).ext u9).ext u10).ext u11) S0.out.row S0.out.psum (by omega)).mono ?_
  rw [HK0.out]
  rintro e w12 ⟨rfl, ⟨ys12, o12, mk12⟩, u12⟩
  have OM12 := Lib.hid o12; clear o12
  have MK12 := Lib.hid mk12; clear mk12
  have U12 := Lib.hid u12; clear u12
  have RG12 : Hid (∀ b, rowBlks r5 xs0 b → _ ∧ b < _) := Lib.hid (fun b hb => by have := O5.out.blks hb; exact ⟨this.1, this.2.1⟩)
  have v12 := v11.of_upd U12.out (fun b hb => by have := RG12.out b hb; have := SZ2.out; have := SZ3.out; have := RS_3.out; have := RS_4.out; have := SZ5.out; have := SZ6.out; have := RS_6.out; have := RS_7.out; have := SZ8.out; have := SZ9.out; have := SZ10.out; have := SZ11.out; omega)
  have SZ12 := Lib.hid U12.out.size
  go_wp2_with fail
  refine (eqIntSS_b true _ _ V0 V0 _ (by simp) (((((O6.out.ext u8).ext u9).ext u10).ext u11).away U12.out (fun b hb => by have := RG12.out b hb; have := RS_5.out; have := RS_6.out; have := SZ2.out; have := SZ3.out; have := RS_3.out; have := RS_4.out; have := SZ5.out; have := SZ6.out; have := RS_6.out; have := RS_7.out; have := SZ8.out; have := SZ9.out; have := SZ10.out; have := SZ11.out; have := SZ12.out; omega)).grid (((((((O3.out.ext u5).ext u6).ext u8).ext u9).ext u10).ext u11).away U12.out (fun b hb => by have := RG12.out b hb; have := RS_5.out; have := RS_3.out; have := SZ2.out; have := SZ3.out; have := RS_3.out; have := RS_4.out; have := SZ5.out; have := SZ6.out; have := RS_6.out; have := RS_7.out; have := SZ8.out; have := SZ9.out; have := SZ10.out; have := SZ11.out; have := SZ12.out; omega)).grid).mono ?_
  rintro e w13 ⟨rfl, d13⟩
  have u13 := Drew.ext d13
  have v13 := v12.trans u13
  have SZ13 := Lib.hid u13.size
  go_wp2_with fail
  refine (eqIntSS_b true _ _ V1 V1 _ (by simp) ((((((O7.out.ext u8).ext u9).ext u10).ext u11).away U12.out (fun b hb => by have := RG12.out b hb; have := RS_5.out; have := RS_7.out; have := SZ2.out; have := SZ3.out; have := RS_3.out; have := RS_4.out; have := SZ5.out; have := SZ6.out; have := RS_6.out; have := RS_7.out; have := SZ8.out; have := SZ9.out; have := SZ10.out; have := SZ11.out; have := SZ12.out; have := SZ13.out; omega)).ext u13).grid ((((((((O4.out.ext u5).ext u6).ext u8).ext u9).ext u10).ext u11).away U12.out (fun b hb => by have := RG12.out b hb; have := RS_5.out; have := RS_4.out; have := SZ2.out; have := SZ3.out; have := RS_3.out; have := RS_4.out; have := SZ5.out; have := SZ6.out; have := RS_6.out; have := RS_7.out; have := SZ8.out; have := SZ9.out; have := SZ10.out; have := SZ11.out; have := SZ12.out; have := SZ13.out; omega)).ext u13).grid).mono ?_
  rintro e w14 ⟨rfl, d14⟩
  have u14 := Drew.ext d14
  have v14 := v13.trans u14
  have SZ14 := Lib.hid u14.size
  go_wp2_with fail
  refine (markIntSS_c _ _ _ _ V0 1 _ (((((((O6.out.ext u8).ext u9).ext u10).ext u11).away U12.out (fun b hb => by have := RG12.out b hb; have := RS_5.out; have := RS_6.out; have := SZ2.out; have := SZ3.out; have := RS_3.out; have := RS_4.out; have := SZ5.out; have := SZ6.out; have := RS_6.out; have := RS_7.out; have := SZ8.out; have := SZ9.out; have := SZ10.out; have := SZ11.out; have := SZ12.out; have := SZ13.out; have := SZ14.out; omega)).ext u13).ext u14) RS0.out.row RS0.out.psum (by omega)).mono ?_
  rw [HM0.out]
  rintro e w15 ⟨rfl, ⟨ys15, o15, mk15⟩, u15⟩
  have OM15 := Lib.hid o15; clear o15
  have MK15 := Lib.hid mk15; clear mk15
  have U15 := Lib.hid u15; clear u15
  have RG15 : Hid (∀ b, rowBlks r6 V0 b → _ ∧ b < _) := Lib.hid (fun b hb => by have := O6.out.blks hb; exact ⟨this.1, this.2.1⟩)
  have v15 := v14.of_upd U15.out (fun b hb => by have := RG15.out b hb; have := SZ2.out; have := SZ3.out; have := RS_3.out; have := RS_4.out; have := SZ5.out; have := SZ6.out; have := RS_6.out; have := RS_7.out; have := SZ8.out; have := SZ9.out; have := SZ10.out; have := SZ11.out; have := SZ12.out; have := SZ13.out; have := SZ14.out; omega)
  have SZ15 := Lib.hid U15.out.size
  go_wp2_with fail
  refine (markIntSS_c _ _ _ _ V1 m0 _ ((((((((O7.out.ext u8).ext u9).ext u10).ext u11).away U12.out (fun b hb => by have := RG12.out b hb; have := RS_5.out; have := RS_7.out; have := SZ2.out; have := SZ3.out; have := RS_3.out; have := RS_4.out; have := SZ5.out; have := SZ6.out; have := RS_6.out; have := RS_7.out; have := SZ8.out; have := SZ9.out; have := SZ10.out; have := SZ11.out; have := SZ12.out; have := SZ13.out; have := SZ14.out; have := SZ15.out; omega)).ext u13).ext u14).away U15.out (fun b hb => by have := RG15.out b hb; have := RS_6.out; have := RS_7.out; have := SZ2.out; have := SZ3.out; have := RS_3.out; have := RS_4.out; have := SZ5.out; have := SZ6.out; have := RS_6.out; have := RS_7.out; have := SZ8.out; have := SZ9.out; have := SZ10.out; have := SZ11.out; have := SZ12.out; have := SZ13.out; have := SZ14.out; have := SZ15.out; omega)) RS1.out.row RS1.out.psum (by omega)).mono ?_
  rw [HM1.out]
  rintro e w16 ⟨rfl, ⟨ys16, o16, mk16⟩, u16⟩
  have OM16 := Lib.hid o16; clear o16
  have MK16 := Lib.hid mk16; clear mk16
  have U16 := Lib.hid u16; clear u16
  have RG16 : Hid (∀ b, rowBlks r7 V1 b → _ ∧ b < _) := Lib.hid (fun b hb => by have := O7.out.blks hb; exact ⟨this.1, this.2.1⟩)
  have v16 := v15.of_upd U16.out (fun b hb => by have := RG16.out b hb; have := SZ2.out; have := SZ3.out; have := RS_3.out; have := RS_4.out; have := SZ5.out; have := SZ6.out; have := RS_6.out; have := RS_7.out; have := SZ8.out; have := SZ9.out; have := SZ10.out; have := SZ11.out; have := SZ12.out; have := SZ13.out; have := SZ14.out; have := SZ15.out; omega)
  have SZ16 := Lib.hid U16.out.size
  go_wp2_with fail
  refine (heldIntSS_c _ V0 _ 1 _ (OM15.out.away U16.out (fun b hb => by have := RG16.out b hb; have := RS_7.out; have := RS_6.out; have := SZ2.out; have := SZ3.out; have := RS_3.out; have := RS_4.out; have := SZ5.out; have := SZ6.out; have := RS_6.out; have := RS_7.out; have := SZ8.out; have := SZ9.out; have := SZ10.out; have := SZ11.out; have := SZ12.out; have := SZ13.out; have := SZ14.out; have := SZ15.out; have := SZ16.out; omega)).grid MK15.out RS0.out.row RS0.out.psum (by omega)).mono ?_
  rw [HM0.out]
  rintro e w16 ⟨rfl, rfl⟩
  go_wp2_with fail
  refine (heldIntSS_c _ V1 _ m0 _ OM16.out.grid MK16.out RS1.out.row RS1.out.psum (by omega)).mono ?_
  rw [HM1.out]
  rintro e w16 ⟨rfl, rfl⟩
  go_wp2_with fail
  refine (toIntSS_c _ xs0 _ (H0.out.ext v16) S0.out.len S0.out.row).mono ?_
  rintro e w19 ⟨x19, r19, rfl, o19, u19⟩
  have v19 := v16.trans u19
  have SZ19 := Lib.hid u19.size
  have O19 := Lib.hid o19
  clear o19
  have RS_19 := Lib.hid u19.size
  go_wp2_with fail
  refine (implOb_c _ xs0 a1 _ O19.out.grid ).mono ?_
  rw [HV0.out]
  rw [HV1.out]
  rw [HV2.out]
  rintro e w20 ⟨x20, r20, x21, r21, mid20, rfl, ml20, mh20, o20, o21, u20⟩
  have v20 := v19.trans u20
  have SZ20 := Lib.hid u20.size
  have O20 := Lib.hid o20; clear o20
  have O21 := Lib.hid o21; clear o21
  have RS_20 := Lib.hid ml20; clear ml20
  have RS_21 := Lib.hid mh20; clear mh20
  go_wp2_with fail
  refine (eqIntSS_b true _ _ V0 V0 _ (by simp) O20.out.grid (((((((((((((O3.out.ext u5).ext u6).ext u8).ext u9).ext u10).ext u11).away U12.out (fun b hb => by have := RG12.out b hb; have := RS_5.out; have := RS_3.out; have := SZ2.out; have := SZ3.out; have := RS_3.out; have := RS_4.out; have := SZ5.out; have := SZ6.out; have := RS_6.out; have := RS_7.out; have := SZ8.out; have := SZ9.out; have := SZ10.out; have := SZ11.out; have := SZ12.out; have := SZ13.out; have := SZ14.out; have := SZ15.out; have := SZ16.out; have := SZ19.out; have := SZ20.out; have := RS_20.out; have := RS_21.out; omega)).ext u13).ext u14).away U15.out (fun b hb => by have := RG15.out b hb; have := RS_6.out; have := RS_3.out; have := SZ2.out; have := SZ3.out; have := RS_3.out; have := RS_4.out; have := SZ5.out; have := SZ6.out; have := RS_6.out; have := RS_7.out; have := SZ8.out; have := SZ9.out; have := SZ10.out; have := SZ11.out; have := SZ12.out; have := SZ13.out; have := SZ14.out; have := SZ15.out; have := SZ16.out; have := SZ19.out; have := SZ20.out; have := RS_20.out; have := RS_21.out; omega)).away U16.out (fun b hb => by have := RG16.out b hb; have := RS_7.out; have := RS_3.out; have := SZ2.out; have := SZ3.out; have := RS_3.out; have := RS_4.out; have := SZ5.out; have := SZ6.out; have := RS_6.out; have := RS_7.out; have := SZ8.out; have := SZ9.out; have := SZ10.out; have := SZ11.out; have := SZ12.out; have := SZ13.out; have := SZ14.out; have := SZ15.out; have := SZ16.out; have := SZ19.out; have := SZ20.out; have := RS_20.out; have := RS_21.out; omega)).ext u19).ext u20).grid).mono ?_
  rintro e w22 ⟨rfl, d22⟩
  have u22 := Drew.ext d22
  have v22 := v20.trans u22
  have SZ22 := Lib.hid u22.size
  go_wp2_with fail
  refine (eqIntSS_b true _ _ V1 V1 _ (by simp) (O21.out.ext u22).grid ((((((((((((((O4.out.ext u5).ext u6).ext u8).ext u9).ext u10).ext u11).away U12.out (fun b hb => by have := RG12.out b hb; have := RS_5.out; have := RS_4.out; have := SZ2.out; have := SZ3.out; have := RS_3.out; have := RS_4.out; have := SZ5.out; have := SZ6.out; have := RS_6.out; have := RS_7.out; have := SZ8.out; have := SZ9.out; have := SZ10.out; have := SZ11.out; have := SZ12.out; have := SZ13.out; have := SZ14.out; have := SZ15.out; have := SZ16.out; have := SZ19.out; have := SZ20.out; have := RS_20.out; have := RS_21.out; have := SZ22.out; omega)).ext u13).ext u14).away U15.out (fun b hb => by have := RG15.out b hb; have := RS_6.out; have := RS_4.out; have := SZ2.out; have := SZ3.out; have := RS_3.out; have := RS_4.out; have := SZ5.out; have := SZ6.out; have := RS_6.out; have := RS_7.out; have := SZ8.out; have := SZ9.out; have := SZ10.out; have := SZ11.out; have := SZ12.out; have := SZ13.out; have := SZ14.out; have := SZ15.out; have := SZ16.out; have := SZ19.out; have := SZ20.out; have := RS_20.out; have := RS_21.out; have := SZ22.out; omega)).away U16.out (fun b hb => by have := RG16.out b hb; have := RS_7.out; have := RS_4.out; have := SZ2.out; have := SZ3.out; have := RS_3.out; have := RS_4.out; have := SZ5.out; have := SZ6.out; have := RS_6.out; have := RS_7.out; have := SZ8.out; have := SZ9.out; have := SZ10.out; have := SZ11.out; have := SZ12.out; have := SZ13.out; have := SZ14.out; have := SZ15.out; have := SZ16.out; have := SZ19.out; have := SZ20.out; have := RS_20.out; have := RS_21.out; have := SZ22.out; omega)).ext u19).ext u20).ext u22).grid).mono ?_
  rintro e w23 ⟨rfl, d23⟩
  have u23 := Drew.ext d23
  have v23 := v22.trans u23
  have SZ23 := Lib.hid u23.size
  go_wp2_with fail
  refine (heldIntSS_c _ V0 _ 1 _ (((((OM15.out.away U16.out (fun b hb => by have := RG16.out b hb; have := RS_7.out; have := RS_6.out; have := SZ2.out; have := SZ3.out; have := RS_3.out; have := RS_4.out; have := SZ5.out; have := SZ6.out; have := RS_6.out; have := RS_7.out; have := SZ8.out; have := SZ9.out; have := SZ10.out; have := SZ11.out; have := SZ12.out; have := SZ13.out; have := SZ14.out; have := SZ15.out; have := SZ16.out; have := SZ19.out; have := SZ20.out; have := RS_20.out; have := RS_21.out; have := SZ22.out; have := SZ23.out; omega)).ext u19).ext u20).ext u22).ext u23).grid MK15.out RS0.out.row RS0.out.psum (by omega)).mono ?_
  rw [HM0.out]
  rintro e w23 ⟨rfl, rfl⟩
  go_wp2_with fail
  refine (heldIntSS_c _ V1 _ m0 _ ((((OM16.out.ext u19).ext u20).ext u22).ext u23).grid MK16.out RS1.out.row RS1.out.psum (by omega)).mono ?_
  rw [HM1.out]
  rintro e w23 ⟨rfl, rfl⟩
  go_wp2
  go_ret
  exact ⟨rfl, v23⟩
end Go.Proofs.Ytmffhipfodlomaa
