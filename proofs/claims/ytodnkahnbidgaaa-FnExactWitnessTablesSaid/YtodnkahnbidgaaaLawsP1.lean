/- The law on WitnessTables. -/
import Derived.Test.YtodnkahnbidgaaaWt
import Derived.Test.YtodnkahnbidgaaaRgOf
import Derived.Deep.RegionHeld3
namespace Go.Proofs.Ytodnkahnbidgaaa
open Go.RowKit

theorem first_small {T : Tr} (ho : TrOk T) : Small (firstV T) := by
  have h1 := ho.dims.2.1
  have h2 := ho.dims.2.2.2.1
  unfold firstV
  split
  · rename_i he
    have h := he.choose_spec.rc
    exact Small.of_rows8 (by rw [h.len]; exact h1) (fun k hk => by rw [h.row k (by rw [← h.len]; exact hk)]; exact h2)
  · exact Small.of_rows8 (by simp) (fun k hk => by simp at hk)
theorem wtA_small (x p : List (List Int)) (i j : Int) : Small (wtA x p i j) := by
  unfold wtA
  split
  · rename_i h
    obtain ⟨hp, a, c, rfl, rfl, han, hcm, _⟩ := hidB_true h
    have hqb := q_bound hp han hcm
    exact first_small (prot_ok hp han hcm (by simp only [Int.toNat_natCast]; omega))
  · exact Small.of_rows8 (by simp) (fun k hk => by simp at hk)
theorem wtC_small (x p : List (List Int)) (i j : Int) : Small (wtC x p i j) := by
  unfold wtC
  split
  · rename_i h
    obtain ⟨hp, a, c, rfl, rfl, han, hcm, _⟩ := hidB_true h
    have hqb := q_bound hp han hcm
    exact first_small (prot_ok hp han hcm (by simp only [Int.toNat_natCast]; omega))
  · exact Small.of_rows8 (by simp) (fun k hk => by simp at hk)

set_option maxHeartbeats 3200000 in
theorem lawWitnessTables_c (v0 : Value) (xs0 : List (List Int)) (v1 : Value) (xs1 : List (List Int)) (a2 : Int) (a3 : Int) (w : World) (h0 : Grid w v0 xs0) (h1 : Grid w v1 xs1) (_ : WfG xs0) (_ : WfG xs1) (i2 : -9223372036854775808 ≤ a2 ∧ a2 ≤ 9223372036854775807) (i3 : -9223372036854775808 ≤ a3 ∧ a3 ≤ 9223372036854775807) :
    Calls Try.prog 3 #[v0, v1, .int .i64 a2, .int .i64 a3] w fun e w' => e = .returned (.bool true) ∧ Ext w w' := by
  have H0 := Lib.hid h0; clear h0
  have H1 := Lib.hid h1; clear h1
  have I2 := Lib.hid i2; clear i2
  have I3 := Lib.hid i3; clear i3
  have v0 := (Ext.refl w)
  obtain ⟨V0, hV0⟩ : ∃ V, wtA xs0 xs1 a2 a3 = V := ⟨_, rfl⟩
  have HV0 := Lib.hid hV0; clear hV0
  obtain ⟨V1, hV1⟩ : ∃ V, wtC xs0 xs1 a2 a3 = V := ⟨_, rfl⟩
  have HV1 := Lib.hid hV1; clear hV1
  obtain ⟨V2, hV2⟩ : ∃ V, hidB xs0 xs1 a2 a3 = V := ⟨_, rfl⟩
  have HV2 := Lib.hid hV2; clear hV2
  have qv2 : (V2 != V2) = false := by simp
  go_enter Try.func3, Try.ntmps3
  obtain ⟨t0, ht0⟩ : ∃ t, szG 1048576 xs0 = t := ⟨_, rfl⟩
  have T0 := Lib.hid ht0; clear ht0
  go_wp2_with fail
  refine (szIntSS_c _ xs0 1048576 _ (H0.out.ext v0) (by omega)).mono ?_
  rw [T0.out]
  rintro e w' ⟨rfl, rfl⟩
  by_cases hz0 : t0 < 0
  · go_wp2
    go_ret
    exact ⟨rfl, v0⟩
  have tr0 : 0 ≤ t0 ∧ t0 ≤ 1048576 := by have h1 := T0.out; have h2 := szG_range (left := 1048576) (xss := xs0) (by omega); omega
  have S0 := Lib.hid (Small.of_szG (left := 1048576) (xss := xs0) (by omega) (by have h1 := T0.out; omega))
  obtain ⟨t1, ht1⟩ : ∃ t, szG t0 xs1 = t := ⟨_, rfl⟩
  have T1 := Lib.hid ht1; clear ht1
  go_wp2_with fail
  refine (szIntSS_c _ xs1 t0 _ (H1.out.ext v0) (by omega)).mono ?_
  rw [T1.out]
  rintro e w' ⟨rfl, rfl⟩
  by_cases hz1 : t1 < 0
  · go_wp2
    go_ret
    exact ⟨rfl, v0⟩
  have tr1 : 0 ≤ t1 ∧ t1 ≤ 1048576 := by have h1 := T1.out; have h2 := szG_range (left := t0) (xss := xs1) (by omega); omega
  have S1 := Lib.hid (Small.of_szG (left := t0) (xss := xs1) (by omega) (by have h1 := T1.out; omega))
  obtain ⟨k0, hk0⟩ : ∃ k, 1 + (psum xs0 xs0.length : Int) = k := ⟨_, rfl⟩
  have kb0 : 1 ≤ k0 ∧ k0 ≤ 1048577 := by have h1 := S0.out.psum xs0.length (Nat.le_refl _); omega
  have HK0 := Lib.hid hk0; clear hk0
  obtain ⟨k1, hk1⟩ : ∃ k, k0 + (psum xs1 xs1.length : Int) = k := ⟨_, rfl⟩
  have kb1 : 1 ≤ k1 ∧ k1 ≤ 2097153 := by have h1 := S1.out.psum xs1.length (Nat.le_refl _); omega
  have HK1 := Lib.hid hk1; clear hk1
  have kn : ¬ (k1 < 0) := by omega
  have kd : decide (k1 < 0) = false := by simp; omega
  have RS0 := Lib.hid (show Small V0 by rw [← HV0.out]; exact wtA_small _ _ _ _)
  obtain ⟨m0, hm0⟩ : ∃ m, 1 + (psum V0 V0.length : Int) = m := ⟨_, rfl⟩
  have mb0 : 1 ≤ m0 ∧ m0 ≤ 1048577 := by have h1 := RS0.out.psum V0.length (Nat.le_refl _); omega
  have HM0 := Lib.hid hm0; clear hm0
  have mn0 : ¬ (m0 < 0) := by omega
  have md0 : decide (m0 < 0) = false := by simp; omega
  have RS1 := Lib.hid (show Small V1 by rw [← HV1.out]; exact wtC_small _ _ _ _)
  obtain ⟨m1, hm1⟩ : ∃ m, m0 + (psum V1 V1.length : Int) = m := ⟨_, rfl⟩
  have mb1 : 1 ≤ m1 ∧ m1 ≤ 2097153 := by have h1 := RS1.out.psum V1.length (Nat.le_refl _); omega
  have HM1 := Lib.hid hm1; clear hm1
  have mn1 : ¬ (m1 < 0) := by omega
  have md1 : decide (m1 < 0) = false := by simp; omega
  have mq : (m1 != m1) = false := by simp
  go_wp2_with fail
  refine (toIntSS_c _ xs0 _ (H0.out.ext v0) S0.out.len S0.out.row).mono ?_
  rintro e w3 ⟨x3, r3, rfl, o3, u3⟩
  have v3 := v0.trans u3
  have SZ3 := Lib.hid u3.size
  have O3 := Lib.hid o3
  clear o3
  have RS_3 := Lib.hid u3.size
  go_wp2_with fail
  refine (toIntSS_c _ xs1 _ (H1.out.ext v3) S1.out.len S1.out.row).mono ?_
  rintro e w4 ⟨x4, r4, rfl, o4, u4⟩
  have v4 := v3.trans u4
  have SZ4 := Lib.hid u4.size
  have O4 := Lib.hid o4
  clear o4
  have RS_4 := Lib.hid u4.size
  go_wp2_with fail
  refine (specWit_c _ xs0 _ xs1 a2 a3 _ (O3.out.ext u4).grid O4.out.grid ).mono ?_
  rw [HV0.out]
  rw [HV1.out]
  rw [HV2.out]
  rintro e w5 ⟨x5, r5, x6, r6, mid5, rfl, ml5, mh5, o5, o6, u5⟩
  have v5 := v4.trans u5
  have SZ5 := Lib.hid u5.size
  have O5 := Lib.hid o5; clear o5
  have O6 := Lib.hid o6; clear o6
  have RS_5 := Lib.hid ml5; clear ml5
  have RS_6 := Lib.hid mh5; clear mh5
  go_wp2_with fail
  refine (toIntSS_c _ xs0 _ (H0.out.ext v5) S0.out.len S0.out.row).mono ?_
  rintro e w7 ⟨x7, r7, rfl, o7, u7⟩
  have v7 := v5.trans u7
  have SZ7 := Lib.hid u7.size
  have O7 := Lib.hid o7
  clear o7
  have RS_7 := Lib.hid u7.size
  go_wp2_with fail
  refine (toIntSS_c _ xs1 _ (H1.out.ext v7) S1.out.len S1.out.row).mono ?_
  rintro e w8 ⟨x8, r8, rfl, o8, u8⟩
  have v8 := v7.trans u8
  have SZ8 := Lib.hid u8.size
  have O8 := Lib.hid o8
  clear o8
  have RS_8 := Lib.hid u8.size
  go_wp2_with fail
  refine (implWit_c _ xs0 _ xs1 a2 a3 _ (O7.out.ext u8).grid O8.out.grid ).mono ?_
  rw [HV0.out]
  rw [HV1.out]
  rw [HV2.out]
  rintro e w9 ⟨x9, r9, x10, r10, mid9, rfl, ml9, mh9, o9, o10, u9⟩
  have v9 := v8.trans u9
  have SZ9 := Lib.hid u9.size
  have O9 := Lib.hid o9; clear o9
  have O10 := Lib.hid o10; clear o10
  have RS_9 := Lib.hid ml9; clear ml9
  have RS_10 := Lib.hid mh9; clear mh9
  go_wp2_with fail
  refine (eqIntSS_b true _ _ V0 V0 _ (by simp) O9.out.grid (((O5.out.ext u7).ext u8).ext u9).grid).mono ?_
  rintro e w11 ⟨rfl, d11⟩
  have u11 := Drew.ext d11
  have v11 := v9.trans u11
  have SZ11 := Lib.hid u11.size
  go_wp2_with fail
  refine (eqIntSS_b true _ _ V1 V1 _ (by simp) (O10.out.ext u11).grid ((((O6.out.ext u7).ext u8).ext u9).ext u11).grid).mono ?_
  rintro e w12 ⟨rfl, d12⟩
  have u12 := Drew.ext d12
  have v12 := v11.trans u12
  have SZ12 := Lib.hid u12.size
  go_wp2_with fail
  refine (toIntSS_c _ xs0 _ (H0.out.ext v12) S0.out.len S0.out.row).mono ?_
  rintro e w13 ⟨x13, r13, rfl, o13, u13⟩
  have v13 := v12.trans u13
  have SZ13 := Lib.hid u13.size
  have O13 := Lib.hid o13
  clear o13
  have RS_13 := Lib.hid u13.size
  go_wp2_with fail
  refine (eqIntSS_b true _ _ xs0 xs0 _ (by simp) (((((O7.out.ext u8).ext u9).ext u11).ext u12).ext u13).grid O13.out.grid).mono ?_
  rintro e w14 ⟨rfl, d14⟩
  have u14 := Drew.ext d14
  have v14 := v13.trans u14
  have SZ14 := Lib.hid u14.size
  go_wp2_with fail
  refine (toIntSS_c _ xs1 _ (H1.out.ext v14) S1.out.len S1.out.row).mono ?_
  rintro e w15 ⟨x15, r15, rfl, o15, u15⟩
  have v15 := v14.trans u15
  have SZ15 := Lib.hid u15.size
  have O15 := Lib.hid o15
  clear o15
  have RS_15 := Lib.hid u15.size
  go_wp2_with fail
  refine (eqIntSS_b true _ _ xs1 xs1 _ (by simp) ((((((O8.out.ext u9).ext u11).ext u12).ext u13).ext u14).ext u15).grid O15.out.grid).mono ?_
  rintro e w16 ⟨rfl, d16⟩
  have u16 := Drew.ext d16
  have v16 := v15.trans u16
  have SZ16 := Lib.hid u16.size
  go_wp2_with fail
  refine (markIntSS_c _ _ _ _ xs0 1 _ ((((((((O7.out.ext u8).ext u9).ext u11).ext u12).ext u13).ext u14).ext u15).ext u16) S0.out.row S0.out.psum (by omega)).mono ?_
  rw [HK0.out]
  rintro e w17 ⟨rfl, ⟨ys17, o17, mk17⟩, u17⟩
  have OM17 := Lib.hid o17; clear o17
  have MK17 := Lib.hid mk17; clear mk17
  have U17 := Lib.hid u17; clear u17
  have RG17 : Hid (∀ b, rowBlks r7 xs0 b → _ ∧ b < _) := Lib.hid (fun b hb => by have := O7.out.blks hb; exact ⟨this.1, this.2.1⟩)
  have v17 := v16.of_upd U17.out (fun b hb => by have := RG17.out b hb; have := SZ3.out; have := SZ4.out; have := SZ5.out; have := RS_5.out; have := RS_6.out; have := SZ7.out; have := SZ8.out; have := SZ9.out; have := RS_9.out; have := RS_10.out; have := SZ11.out; have := SZ12.out; have := SZ13.out; have := SZ14.out; have := SZ15.out; have := SZ16.out; omega)
  have SZ17 := Lib.hid U17.out.size
  go_wp2_with fail
  refine (markIntSS_c _ _ _ _ xs1 k0 _ ((((((((O8.out.ext u9).ext u11).ext u12).ext u13).ext u14).ext u15).ext u16).away U17.out (fun b hb => by have := RG17.out b hb; have := RS_7.out; have := RS_8.out; have := SZ3.out; have := SZ4.out; have := SZ5.out; have := RS_5.out; have := RS_6.out; have := SZ7.out; have := SZ8.out; have := SZ9.out; have := RS_9.out; have := RS_10.out; have := SZ11.out; have := SZ12.out; have := SZ13.out; have := SZ14.out; have := SZ15.out; have := SZ16.out; have := SZ17.out; omega)) S1.out.row S1.out.psum (by omega)).mono ?_
  rw [HK1.out]
  rintro e w18 ⟨rfl, ⟨ys18, o18, mk18⟩, u18⟩
  have OM18 := Lib.hid o18; clear o18
  have MK18 := Lib.hid mk18; clear mk18
  have U18 := Lib.hid u18; clear u18
  have RG18 : Hid (∀ b, rowBlks r8 xs1 b → _ ∧ b < _) := Lib.hid (fun b hb => by have := O8.out.blks hb; exact ⟨this.1, this.2.1⟩)
  have v18 := v17.of_upd U18.out (fun b hb => by have := RG18.out b hb; have := SZ3.out; have := SZ4.out; have := SZ5.out; have := RS_5.out; have := RS_6.out; have := SZ7.out; have := SZ8.out; have := SZ9.out; have := RS_9.out; have := RS_10.out; have := SZ11.out; have := SZ12.out; have := SZ13.out; have := SZ14.out; have := SZ15.out; have := SZ16.out; have := SZ17.out; omega)
  have SZ18 := Lib.hid U18.out.size
  go_wp2_with fail
  refine (eqIntSS_b true _ _ V0 V0 _ (by simp) ((((((((O9.out.ext u11).ext u12).ext u13).ext u14).ext u15).ext u16).away U17.out (fun b hb => by have := RG17.out b hb; have := RS_7.out; have := RS_9.out; have := SZ3.out; have := SZ4.out; have := SZ5.out; have := RS_5.out; have := RS_6.out; have := SZ7.out; have := SZ8.out; have := SZ9.out; have := RS_9.out; have := RS_10.out; have := SZ11.out; have := SZ12.out; have := SZ13.out; have := SZ14.out; have := SZ15.out; have := SZ16.out; have := SZ17.out; have := SZ18.out; omega)).away U18.out (fun b hb => by have := RG18.out b hb; have := RS_8.out; have := RS_9.out; have := SZ3.out; have := SZ4.out; have := SZ5.out; have := RS_5.out; have := RS_6.out; have := SZ7.out; have := SZ8.out; have := SZ9.out; have := RS_9.out; have := RS_10.out; have := SZ11.out; have := SZ12.out; have := SZ13.out; have := SZ14.out; have := SZ15.out; have := SZ16.out; have := SZ17.out; have := SZ18.out; omega)).grid (((((((((((O5.out.ext u7).ext u8).ext u9).ext u11).ext u12).ext u13).ext u14).ext u15).ext u16).away U17.out (fun b hb => by have := RG17.out b hb; have := RS_7.out; have := RS_5.out; have := SZ3.out; have := SZ4.out; have := SZ5.out; have := RS_5.out; have := RS_6.out; have := SZ7.out; have := SZ8.out; have := SZ9.out; have := RS_9.out; have := RS_10.out; have := SZ11.out; have := SZ12.out; have := SZ13.out; have := SZ14.out; have := SZ15.out; have := SZ16.out; have := SZ17.out; have := SZ18.out; omega)).away U18.out (fun b hb => by have := RG18.out b hb; have := RS_8.out; have := RS_5.out; have := SZ3.out; have := SZ4.out; have := SZ5.out; have := RS_5.out; have := RS_6.out; have := SZ7.out; have := SZ8.out; have := SZ9.out; have := RS_9.out; have := RS_10.out; have := SZ11.out; have := SZ12.out; have := SZ13.out; have := SZ14.out; have := SZ15.out; have := SZ16.out; have := SZ17.out; have := SZ18.out; omega)).grid).mono ?_
  rintro e w19 ⟨rfl, d19⟩
  have u19 := Drew.ext d19
  have v19 := v18.trans u19
  have SZ19 := Lib.hid u19.size
  go_wp2_with fail
  refine (eqIntSS_b true _ _ V1 V1 _ (by simp) (((((((((O10.out.ext u11).ext u12).ext u13).ext u14).ext u15).ext u16).away U17.out (fun b hb => by have := RG17.out b hb; have := RS_7.out; have := RS_10.out; have := SZ3.out; have := SZ4.out; have := SZ5.out; have := RS_5.out; have := RS_6.out; have := SZ7.out; have := SZ8.out; have := SZ9.out; have := RS_9.out; have := RS_10.out; have := SZ11.out; have := SZ12.out; have := SZ13.out; have := SZ14.out; have := SZ15.out; have := SZ16.out; have := SZ17.out; have := SZ18.out; have := SZ19.out; omega)).away U18.out (fun b hb => by have := RG18.out b hb; have := RS_8.out; have := RS_10.out; have := SZ3.out; have := SZ4.out; have := SZ5.out; have := RS_5.out; have := RS_6.out; have := SZ7.out; have := SZ8.out; have := SZ9.out; have := RS_9.out; have := RS_10.out; have := SZ11.out; have := SZ12.out; have := SZ13.out; have := SZ14.out; have := SZ15.out; have := SZ16.out; have := SZ17.out; have := SZ18.out; have := SZ19.out; omega)).ext u19).grid ((((((((((((O6.out.ext u7).ext u8).ext u9).ext u11).ext u12).ext u13).ext u14).ext u15).ext u16).away U17.out (fun b hb => by have := RG17.out b hb; have := RS_7.out; have := RS_6.out; have := SZ3.out; have := SZ4.out; have := SZ5.out; have := RS_5.out; have := RS_6.out; have := SZ7.out; have := SZ8.out; have := SZ9.out; have := RS_9.out; have := RS_10.out; have := SZ11.out; have := SZ12.out; have := SZ13.out; have := SZ14.out; have := SZ15.out; have := SZ16.out; have := SZ17.out; have := SZ18.out; have := SZ19.out; omega)).away U18.out (fun b hb => by have := RG18.out b hb; have := RS_8.out; have := RS_6.out; have := SZ3.out; have := SZ4.out; have := SZ5.out; have := RS_5.out; have := RS_6.out; have := SZ7.out; have := SZ8.out; have := SZ9.out; have := RS_9.out; have := RS_10.out; have := SZ11.out; have := SZ12.out; have := SZ13.out; have := SZ14.out; have := SZ15.out; have := SZ16.out; have := SZ17.out; have := SZ18.out; have := SZ19.out; omega)).ext u19).grid).mono ?_
  rintro e w20 ⟨rfl, d20⟩
  have u20 := Drew.ext d20
  have v20 := v19.trans u20
  have SZ20 := Lib.hid u20.size
  go_wp2_with fail
  refine (markIntSS_c _ _ _ _ V0 1 _ ((((((((((O9.out.ext u11).ext u12).ext u13).ext u14).ext u15).ext u16).away U17.out (fun b hb => by have := RG17.out b hb; have := RS_7.out; have := RS_9.out; have := SZ3.out; have := SZ4.out; have := SZ5.out; have := RS_5.out; have := RS_6.out; have := SZ7.out; have := SZ8.out; have := SZ9.out; have := RS_9.out; have := RS_10.out; have := SZ11.out; have := SZ12.out; have := SZ13.out; have := SZ14.out; have := SZ15.out; have := SZ16.out; have := SZ17.out; have := SZ18.out; have := SZ19.out; have := SZ20.out; omega)).away U18.out (fun b hb => by have := RG18.out b hb; have := RS_8.out; have := RS_9.out; have := SZ3.out; have := SZ4.out; have := SZ5.out; have := RS_5.out; have := RS_6.out; have := SZ7.out; have := SZ8.out; have := SZ9.out; have := RS_9.out; have := RS_10.out; have := SZ11.out; have := SZ12.out; have := SZ13.out; have := SZ14.out; have := SZ15.out; have := SZ16.out; have := SZ17.out; have := SZ18.out; have := SZ19.out; have := SZ20.out; omega)).ext u19).ext u20) RS0.out.row RS0.out.psum (by omega)).mono ?_
  rw [HM0.out]
  rintro e w21 ⟨rfl, ⟨ys21, o21, mk21⟩, u21⟩
  have OM21 := Lib.hid o21; clear o21
  have MK21 := Lib.hid mk21; clear mk21
  have U21 := Lib.hid u21; clear u21
  have RG21 : Hid (∀ b, rowBlks r9 V0 b → _ ∧ b < _) := Lib.hid (fun b hb => by have := O9.out.blks hb; exact ⟨this.1, this.2.1⟩)
  have v21 := v20.of_upd U21.out (fun b hb => by have := RG21.out b hb; have := SZ3.out; have := SZ4.out; have := SZ5.out; have := RS_5.out; have := RS_6.out; have := SZ7.out; have := SZ8.out; have := SZ9.out; have := RS_9.out; have := RS_10.out; have := SZ11.out; have := SZ12.out; have := SZ13.out; have := SZ14.out; have := SZ15.out; have := SZ16.out; have := SZ17.out; have := SZ18.out; have := SZ19.out; have := SZ20.out; omega)
  have SZ21 := Lib.hid U21.out.size
  go_wp2_with fail
  refine (markIntSS_c _ _ _ _ V1 m0 _ (((((((((((O10.out.ext u11).ext u12).ext u13).ext u14).ext u15).ext u16).away U17.out (fun b hb => by have := RG17.out b hb; have := RS_7.out; have := RS_10.out; have := SZ3.out; have := SZ4.out; have := SZ5.out; have := RS_5.out; have := RS_6.out; have := SZ7.out; have := SZ8.out; have := SZ9.out; have := RS_9.out; have := RS_10.out; have := SZ11.out; have := SZ12.out; have := SZ13.out; have := SZ14.out; have := SZ15.out; have := SZ16.out; have := SZ17.out; have := SZ18.out; have := SZ19.out; have := SZ20.out; have := SZ21.out; omega)).away U18.out (fun b hb => by have := RG18.out b hb; have := RS_8.out; have := RS_10.out; have := SZ3.out; have := SZ4.out; have := SZ5.out; have := RS_5.out; have := RS_6.out; have := SZ7.out; have := SZ8.out; have := SZ9.out; have := RS_9.out; have := RS_10.out; have := SZ11.out; have := SZ12.out; have := SZ13.out; have := SZ14.out; have := SZ15.out; have := SZ16.out; have := SZ17.out; have := SZ18.out; have := SZ19.out; have := SZ20.out; have := SZ21.out; omega)).ext u19).ext u20).away U21.out (fun b hb => by have := RG21.out b hb; have := RS_9.out; have := RS_10.out; have := SZ3.out; have := SZ4.out; have := SZ5.out; have := RS_5.out; have := RS_6.out; have := SZ7.out; have := SZ8.out; have := SZ9.out; have := RS_9.out; have := RS_10.out; have := SZ11.out; have := SZ12.out; have := SZ13.out; have := SZ14.out; have := SZ15.out; have := SZ16.out; have := SZ17.out; have := SZ18.out; have := SZ19.out; have := SZ20.out; have := SZ21.out; omega)) RS1.out.row RS1.out.psum (by omega)).mono ?_
  rw [HM1.out]
  rintro e w22 ⟨rfl, ⟨ys22, o22, mk22⟩, u22⟩
  have OM22 := Lib.hid o22; clear o22
  have MK22 := Lib.hid mk22; clear mk22
  have U22 := Lib.hid u22; clear u22
  have RG22 : Hid (∀ b, rowBlks r10 V1 b → _ ∧ b < _) := Lib.hid (fun b hb => by have := O10.out.blks hb; exact ⟨this.1, this.2.1⟩)
  have v22 := v21.of_upd U22.out (fun b hb => by have := RG22.out b hb; have := SZ3.out; have := SZ4.out; have := SZ5.out; have := RS_5.out; have := RS_6.out; have := SZ7.out; have := SZ8.out; have := SZ9.out; have := RS_9.out; have := RS_10.out; have := SZ11.out; have := SZ12.out; have := SZ13.out; have := SZ14.out; have := SZ15.out; have := SZ16.out; have := SZ17.out; have := SZ18.out; have := SZ19.out; have := SZ20.out; have := SZ21.out; omega)
  have SZ22 := Lib.hid U22.out.size
  go_wp2_with fail
  refine (heldIntSS_c _ V0 _ 1 _ (OM21.out.away U22.out (fun b hb => by have := RG22.out b hb; have := RS_10.out; have := RS_9.out; have := SZ3.out; have := SZ4.out; have := SZ5.out; have := RS_5.out; have := RS_6.out; have := SZ7.out; have := SZ8.out; have := SZ9.out; have := RS_9.out; have := RS_10.out; have := SZ11.out; have := SZ12.out; have := SZ13.out; have := SZ14.out; have := SZ15.out; have := SZ16.out; have := SZ17.out; have := SZ18.out; have := SZ19.out; have := SZ20.out; have := SZ21.out; have := SZ22.out; omega)).grid MK21.out RS0.out.row RS0.out.psum (by omega)).mono ?_
  rw [HM0.out]
  rintro e w22 ⟨rfl, rfl⟩
  go_wp2_with fail
  refine (heldIntSS_c _ V1 _ m0 _ OM22.out.grid MK22.out RS1.out.row RS1.out.psum (by omega)).mono ?_
  rw [HM1.out]
  rintro e w22 ⟨rfl, rfl⟩
  go_wp2_with fail
  refine (toIntSS_c _ xs0 _ (H0.out.ext v22) S0.out.len S0.out.row).mono ?_
  rintro e w25 ⟨x25, r25, rfl, o25, u25⟩
  have v25 := v22.trans u25
  have SZ25 := Lib.hid u25.size
  have O25 := Lib.hid o25
  clear o25
  have RS_25 := Lib.hid u25.size
  go_wp2_with fail
  refine (toIntSS_c _ xs1 _ (H1.out.ext v25) S1.out.len S1.out.row).mono ?_
  rintro e w26 ⟨x26, r26, rfl, o26, u26⟩
  have v26 := v25.trans u26
  have SZ26 := Lib.hid u26.size
  have O26 := Lib.hid o26
  clear o26
  have RS_26 := Lib.hid u26.size
  go_wp2_with fail
  refine (implWit_c _ xs0 _ xs1 a2 a3 _ (O25.out.ext u26).grid O26.out.grid ).mono ?_
  rw [HV0.out]
  rw [HV1.out]
  rw [HV2.out]
  rintro e w27 ⟨x27, r27, x28, r28, mid27, rfl, ml27, mh27, o27, o28, u27⟩
  have v27 := v26.trans u27
  have SZ27 := Lib.hid u27.size
  have O27 := Lib.hid o27; clear o27
  have O28 := Lib.hid o28; clear o28
  have RS_27 := Lib.hid ml27; clear ml27
  have RS_28 := Lib.hid mh27; clear mh27
  go_wp2_with fail
  refine (eqIntSS_b true _ _ V0 V0 _ (by simp) O27.out.grid ((((((((((((((((((O5.out.ext u7).ext u8).ext u9).ext u11).ext u12).ext u13).ext u14).ext u15).ext u16).away U17.out (fun b hb => by have := RG17.out b hb; have := RS_7.out; have := RS_5.out; have := SZ3.out; have := SZ4.out; have := SZ5.out; have := RS_5.out; have := RS_6.out; have := SZ7.out; have := SZ8.out; have := SZ9.out; have := RS_9.out; have := RS_10.out; have := SZ11.out; have := SZ12.out; have := SZ13.out; have := SZ14.out; have := SZ15.out; have := SZ16.out; have := SZ17.out; have := SZ18.out; have := SZ19.out; have := SZ20.out; have := SZ21.out; have := SZ22.out; have := SZ25.out; have := SZ26.out; have := SZ27.out; have := RS_27.out; have := RS_28.out; omega)).away U18.out (fun b hb => by have := RG18.out b hb; have := RS_8.out; have := RS_5.out; have := SZ3.out; have := SZ4.out; have := SZ5.out; have := RS_5.out; have := RS_6.out; have := SZ7.out; have := SZ8.out; have := SZ9.out; have := RS_9.out; have := RS_10.out; have := SZ11.out; have := SZ12.out; have := SZ13.out; have := SZ14.out; have := SZ15.out; have := SZ16.out; have := SZ17.out; have := SZ18.out; have := SZ19.out; have := SZ20.out; have := SZ21.out; have := SZ22.out; have := SZ25.out; have := SZ26.out; have := SZ27.out; have := RS_27.out; have := RS_28.out; omega)).ext u19).ext u20).away U21.out (fun b hb => by have := RG21.out b hb; have := RS_9.out; have := RS_5.out; have := SZ3.out; have := SZ4.out; have := SZ5.out; have := RS_5.out; have := RS_6.out; have := SZ7.out; have := SZ8.out; have := SZ9.out; have := RS_9.out; have := RS_10.out; have := SZ11.out; have := SZ12.out; have := SZ13.out; have := SZ14.out; have := SZ15.out; have := SZ16.out; have := SZ17.out; have := SZ18.out; have := SZ19.out; have := SZ20.out; have := SZ21.out; have := SZ22.out; have := SZ25.out; have := SZ26.out; have := SZ27.out; have := RS_27.out; have := RS_28.out; omega)).away U22.out (fun b hb => by have := RG22.out b hb; have := RS_10.out; have := RS_5.out; have := SZ3.out; have := SZ4.out; have := SZ5.out; have := RS_5.out; have := RS_6.out; have := SZ7.out; have := SZ8.out; have := SZ9.out; have := RS_9.out; have := RS_10.out; have := SZ11.out; have := SZ12.out; have := SZ13.out; have := SZ14.out; have := SZ15.out; have := SZ16.out; have := SZ17.out; have := SZ18.out; have := SZ19.out; have := SZ20.out; have := SZ21.out; have := SZ22.out; have := SZ25.out; have := SZ26.out; have := SZ27.out; have := RS_27.out; have := RS_28.out; omega)).ext u25).ext u26).ext u27).grid).mono ?_
  rintro e w29 ⟨rfl, d29⟩
  have u29 := Drew.ext d29
  have v29 := v27.trans u29
  have SZ29 := Lib.hid u29.size
  go_wp2_with fail
  refine (eqIntSS_b true _ _ V1 V1 _ (by simp) (O28.out.ext u29).grid (((((((((((((((((((O6.out.ext u7).ext u8).ext u9).ext u11).ext u12).ext u13).ext u14).ext u15).ext u16).away U17.out (fun b hb => by have := RG17.out b hb; have := RS_7.out; have := RS_6.out; have := SZ3.out; have := SZ4.out; have := SZ5.out; have := RS_5.out; have := RS_6.out; have := SZ7.out; have := SZ8.out; have := SZ9.out; have := RS_9.out; have := RS_10.out; have := SZ11.out; have := SZ12.out; have := SZ13.out; have := SZ14.out; have := SZ15.out; have := SZ16.out; have := SZ17.out; have := SZ18.out; have := SZ19.out; have := SZ20.out; have := SZ21.out; have := SZ22.out; have := SZ25.out; have := SZ26.out; have := SZ27.out; have := RS_27.out; have := RS_28.out; have := SZ29.out; omega)).away U18.out (fun b hb => by have := RG18.out b hb; have := RS_8.out; have := RS_6.out; have := SZ3.out; have := SZ4.out; have := SZ5.out; have := RS_5.out; have := RS_6.out; have := SZ7.out; have := SZ8.out; have := SZ9.out; have := RS_9.out; have := RS_10.out; have := SZ11.out; have := SZ12.out; have := SZ13.out; have := SZ14.out; have := SZ15.out; have := SZ16.out; have := SZ17.out; have := SZ18.out; have := SZ19.out; have := SZ20.out; have := SZ21.out; have := SZ22.out; have := SZ25.out; have := SZ26.out; have := SZ27.out; have := RS_27.out; have := RS_28.out; have := SZ29.out; omega)).ext u19).ext u20).away U21.out (fun b hb => by have := RG21.out b hb; have := RS_9.out; have := RS_6.out; have := SZ3.out; have := SZ4.out; have := SZ5.out; have := RS_5.out; have := RS_6.out; have := SZ7.out; have := SZ8.out; have := SZ9.out; have := RS_9.out; have := RS_10.out; have := SZ11.out; have := SZ12.out; have := SZ13.out; have := SZ14.out; have := SZ15.out; have := SZ16.out; have := SZ17.out; have := SZ18.out; have := SZ19.out; have := SZ20.out; have := SZ21.out; have := SZ22.out; have := SZ25.out; have := SZ26.out; have := SZ27.out; have := RS_27.out; have := RS_28.out; have := SZ29.out; omega)).away U22.out (fun b hb => by have := RG22.out b hb; have := RS_10.out; have := RS_6.out; have := SZ3.out; have := SZ4.out; have := SZ5.out; have := RS_5.out; have := RS_6.out; have := SZ7.out; have := SZ8.out; have := SZ9.out; have := RS_9.out; have := RS_10.out; have := SZ11.out; have := SZ12.out; have := SZ13.out; have := SZ14.out; have := SZ15.out; have := SZ16.out; have := SZ17.out; have := SZ18.out; have := SZ19.out; have := SZ20.out; have := SZ21.out; have := SZ22.out; have := SZ25.out; have := SZ26.out; have := SZ27.out; have := RS_27.out; have := RS_28.out; have := SZ29.out; omega)).ext u25).ext u26).ext u27).ext u29).grid).mono ?_
  rintro e w30 ⟨rfl, d30⟩
  have u30 := Drew.ext d30
  have v30 := v29.trans u30
  have SZ30 := Lib.hid u30.size
  go_wp2_with fail
  refine (heldIntSS_c _ V0 _ 1 _ ((((((OM21.out.away U22.out (fun b hb => by have := RG22.out b hb; have := RS_10.out; have := RS_9.out; have := SZ3.out; have := SZ4.out; have := SZ5.out; have := RS_5.out; have := RS_6.out; have := SZ7.out; have := SZ8.out; have := SZ9.out; have := RS_9.out; have := RS_10.out; have := SZ11.out; have := SZ12.out; have := SZ13.out; have := SZ14.out; have := SZ15.out; have := SZ16.out; have := SZ17.out; have := SZ18.out; have := SZ19.out; have := SZ20.out; have := SZ21.out; have := SZ22.out; have := SZ25.out; have := SZ26.out; have := SZ27.out; have := RS_27.out; have := RS_28.out; have := SZ29.out; have := SZ30.out; omega)).ext u25).ext u26).ext u27).ext u29).ext u30).grid MK21.out RS0.out.row RS0.out.psum (by omega)).mono ?_
  rw [HM0.out]
  rintro e w30 ⟨rfl, rfl⟩
  go_wp2_with fail
  refine (heldIntSS_c _ V1 _ m0 _ (((((OM22.out.ext u25).ext u26).ext u27).ext u29).ext u30).grid MK22.out RS1.out.row RS1.out.psum (by omega)).mono ?_
  rw [HM1.out]
  rintro e w30 ⟨rfl, rfl⟩
  go_wp2
  go_ret
  exact ⟨rfl, v30⟩
end Go.Proofs.Ytodnkahnbidgaaa
