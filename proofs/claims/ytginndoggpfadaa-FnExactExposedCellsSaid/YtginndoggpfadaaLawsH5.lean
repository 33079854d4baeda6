/- The law on ExposedCells. -/
import Derived.Test.YtginndoggpfadaaSec4
import Derived.Test.YtginndoggpfadaaRgOf
import Derived.Deep.RegionHeld3
namespace Go.Proofs.Ytginndoggpfadaa
open Go.RowKit

theorem cells_small (f : Nat → Nat → Int → Bool) {S : List (List Int)} (h1 : S.length ≤ 8) (h2 : ∀ i, i < S.length → (rowAt S i).length ≤ 8) : Small (cellsL f S) := by
  have h3 := cellsL_len (f := f) (p := S) (m := 8) h2
  have h4 := sum_len_le (b := 2) (xss := cellsL f S) (fun r hr => by
    obtain ⟨t, ht, rfl⟩ := List.getElem_of_mem hr
    obtain ⟨i, j, _, _, _, e⟩ := cellsL_row (f := f) (p := S) ht
    rw [rowAt_eq ht] at e
    rw [e]; exact Nat.le_refl 2)
  exact Small.of_bound (by omega)
theorem expV_small (x p : List (List Int)) : Small (expV x p) := by
  unfold expV
  split
  · rename_i h
    have r := pat_rc h
    have d := atk_dims h
    exact cells_small _ (by rw [r.len]; exact d.2.1) (fun i hi => by rw [r.row i (by rw [← r.len]; exact hi)]; exact d.2.2.2)
  · exact Small.of_rows8 (by simp) (fun k hk => by simp at hk)

set_option maxHeartbeats 3200000 in
theorem lawExposedCells_c (v0 : Value) (xs0 : List (List Int)) (v1 : Value) (xs1 : List (List Int)) (w : World) (h0 : Grid w v0 xs0) (h1 : Grid w v1 xs1) (_ : WfG xs0) (_ : WfG xs1) :
    Calls Try.prog 5 #[v0, v1] w fun e w' => e = .returned (.bool true) ∧ Ext w w' := by
  have H0 := Lib.hid h0; clear h0
  have H1 := Lib.hid h1; clear h1
  have v0 := (Ext.refl w)
  obtain ⟨V0, hV0⟩ : ∃ V, expV xs0 xs1 = V := ⟨_, rfl⟩
  have HV0 := Lib.hid hV0; clear hV0
  obtain ⟨V1, hV1⟩ : ∃ V, pubB xs0 xs1 = V := ⟨_, rfl⟩
  have HV1 := Lib.hid hV1; clear hV1
  have qv1 : (V1 != V1) = false := by simp
  go_enter Try.func5, Try.ntmps5
  obtain ⟨t0, ht0⟩ : ∃ t, szG 1048576 xs0 = t := ⟨_, rfl⟩
  have T0 := Lib.hid ht0; clear ht0
  go_wp2_with fail
  refine (szIntSS_c _ xs0 1048576 _ (H0.out.ext v0) (by omega)).mono ?_
  rw [T0.out]
  rintro e w' ⟨rfl, rfl⟩
  by_cases hz0 : t0 < 0
  · go_wp2
    go_ret
    exact ⟨rfl, v0⟩
  have tr0 : 0 ≤ t0 ∧ t0 ≤ 1048576 := by have h1 := T0.out; have h2 := szG_range (left := 1048576) (xss := xs0) (by omega); omega
  have S0 := Lib.hid (Small.of_szG (left := 1048576) (xss := xs0) (by omega) (by have h1 := T0.out; omega))
  obtain ⟨t1, ht1⟩ : ∃ t, szG t0 xs1 = t := ⟨_, rfl⟩
  have T1 := Lib.hid ht1; clear ht1
  go_wp2_with fail
  refine (szIntSS_c _ xs1 t0 _ (H1.out.ext v0) (by omega)).mono ?_
  rw [T1.out]
  rintro e w' ⟨rfl, rfl⟩
  by_cases hz1 : t1 < 0
  · go_wp2
    go_ret
    exact ⟨rfl, v0⟩
  have tr1 : 0 ≤ t1 ∧ t1 ≤ 1048576 := by have h1 := T1.out; have h2 := szG_range (left := t0) (xss := xs1) (by omega); omega
  have S1 := Lib.hid (Small.of_szG (left := t0) (xss := xs1) (by omega) (by have h1 := T1.out; omega))
  obtain ⟨k0, hk0⟩ : ∃ k, 1 + (psum xs0 xs0.length : Int) = k := ⟨_, rfl⟩
  have kb0 : 1 ≤ k0 ∧ k0 ≤ 1048577 := by have h1 := S0.out.psum xs0.length (Nat.le_refl _); omega
  have HK0 := Lib.hid hk0; clear hk0
  obtain ⟨k1, hk1⟩ : ∃ k, k0 + (psum xs1 xs1.length : Int) = k := ⟨_, rfl⟩
  have kb1 : 1 ≤ k1 ∧ k1 ≤ 2097153 := by have h1 := S1.out.psum xs1.length (Nat.le_refl _); omega
  have HK1 := Lib.hid hk1; clear hk1
  have kn : ¬ (k1 < 0) := by omega
  have kd : decide (k1 < 0) = false := by simp; omega
  have RS0 := Lib.hid (show Small V0 by rw [← HV0.out]; exact expV_small _ _)
  obtain ⟨m0, hm0⟩ : ∃ m, 1 + (psum V0 V0.length : Int) = m := ⟨_, rfl⟩
  have mb0 : 1 ≤ m0 ∧ m0 ≤ 1048577 := by have h1 := RS0.out.psum V0.length (Nat.le_refl _); omega
  have HM0 := Lib.hid hm0; clear hm0
  have mn0 : ¬ (m0 < 0) := by omega
  have md0 : decide (m0 < 0) = false := by simp; omega
  have mq : (m0 != m0) = false := by simp
  go_wp2_with fail
  refine (toIntSS_c _ xs0 _ (H0.out.ext v0) S0.out.len S0.out.row).mono ?_
  rintro e w3 ⟨x3, r3, rfl, o3, u3⟩
  have v3 := v0.trans u3
  have SZ3 := Lib.hid u3.size
  have O3 := Lib.hid o3
  clear o3
  have RS_3 := Lib.hid u3.size
  go_wp2_with fail
  refine (toIntSS_c _ xs1 _ (H1.out.ext v3) S1.out.len S1.out.row).mono ?_
  rintro e w4 ⟨x4, r4, rfl, o4, u4⟩
  have v4 := v3.trans u4
  have SZ4 := Lib.hid u4.size
  have O4 := Lib.hid o4
  clear o4
  have RS_4 := Lib.hid u4.size
  go_wp2_with fail
  refine (specExp_c _ xs0 _ xs1 _ (O3.out.ext u4).grid O4.out.grid ).mono ?_
  rw [HV0.out]
  rw [HV1.out]
  rintro e w5 ⟨x5, r5, rfl, o5, u5⟩
  have v5 := v4.trans u5
  have SZ5 := Lib.hid u5.size
  have O5 := Lib.hid o5
  clear o5
  have RS_5 := Lib.hid u5.size
  go_wp2_with fail
  refine (toIntSS_c _ xs0 _ (H0.out.ext v5) S0.out.len S0.out.row).mono ?_
  rintro e w6 ⟨x6, r6, rfl, o6, u6⟩
  have v6 := v5.trans u6
  have SZ6 := Lib.hid u6.size
  have O6 := Lib.hid o6
  clear o6
  have RS_6 := Lib.hid u6.size
  go_wp2_with fail
  refine (toIntSS_c _ xs1 _ (H1.out.ext v6) S1.out.len S1.out.row).mono ?_
  rintro e w7 ⟨x7, r7, rfl, o7, u7⟩
  have v7 := v6.trans u7
  have SZ7 := Lib.hid u7.size
  have O7 := Lib.hid o7
  clear o7
  have RS_7 := Lib.hid u7.size
  go_wp2_with fail
  refine (implExp_c _ xs0 _ xs1 _ (O6.out.ext u7).grid O7.out.grid ).mono ?_
  rw [HV0.out]
  rw [HV1.out]
  rintro e w8 ⟨x8, r8, rfl, o8, u8⟩
  have v8 := v7.trans u8
  have SZ8 := Lib.hid u8.size
  have O8 := Lib.hid o8
  clear o8
  have RS_8 := Lib.hid u8.size
  go_wp2_with fail
  refine (eqIntSS_b true _ _ V0 V0 _ (by simp) O8.out.grid (((O5.out.ext u6).ext u7).ext u8).grid).mono ?_
  rintro e w9 ⟨rfl, d9⟩
  have u9 := Drew.ext d9
  have v9 := v8.trans u9
  have SZ9 := Lib.hid u9.size
  go_wp2_with fail
  refine (toIntSS_c _ xs0 _ (H0.out.ext v9) S0.out.len S0.out.row).mono ?_
  rintro e w10 ⟨x10, r10, rfl, o10, u10⟩
  have v10 := v9.trans u10
  have SZ10 := Lib.hid u10.size
  have O10 := Lib.hid o10
  clear o10
  have RS_10 := Lib.hid u10.size
  go_wp2_with fail
  refine (eqIntSS_b true _ _ xs0 xs0 _ (by simp) ((((O6.out.ext u7).ext u8).ext u9).ext u10).grid O10.out.grid).mono ?_
  rintro e w11 ⟨rfl, d11⟩
  have u11 := Drew.ext d11
  have v11 := v10.trans u11
  have SZ11 := Lib.hid u11.size
  go_wp2_with fail
  refine (toIntSS_c _ xs1 _ (H1.out.ext v11) S1.out.len S1.out.row).mono ?_
  rintro e w12 ⟨x12, r12, rfl, o12, u12⟩
  have v12 := v11.trans u12
  have SZ12 := Lib.hid u12.size
  have O12 := Lib.hid o12
  clear o12
  have RS_12 := Lib.hid u12.size
  go_wp2_with fail
  refine (eqIntSS_b true _ _ xs1 xs1 _ (by simp) (((((O7.out.ext u8).ext u9).ext u10).ext u11).ext u12).grid O12.out.grid).mono ?_
  rintro e w13 ⟨rfl, d13⟩
  have u13 := Drew.ext d13
  have v13 := v12.trans u13
  have SZ13 := Lib.hid u13.size
  go_wp2_with fail
  refine (markIntSS_c _ _ _ _ xs0 1 _ (((((((O6.out.ext u7).ext u8).ext u9).ext u10).ext u11).ext u12).ext u13) S0.out.row S0.out.psum (by omega)).mono ?_
  rw [HK0.out]
  rintro e w14 ⟨rfl, ⟨ys14, o14, mk14⟩, u14⟩
  have OM14 := Lib.hid o14; clear o14
  have MK14 := Lib.hid mk14; clear mk14
  have U14 := Lib.hid u14; clear u14
  have RG14 : Hid (∀ b, rowBlks r6 xs0 b → _ ∧ b < _) := Lib.hid (fun b hb => by have := O6.out.blks hb; exact ⟨this.1, this.2.1⟩)
  have v14 := v13.of_upd U14.out (fun b hb => by have := RG14.out b hb; have := SZ3.out; have := SZ4.out; have := SZ5.out; have := SZ6.out; have := SZ7.out; have := SZ8.out; have := SZ9.out; have := SZ10.out; have := SZ11.out; have := SZ12.out; have := SZ13.out; omega)
  have SZ14 := Lib.hid U14.out.size
  go_wp2_with fail
  refine (markIntSS_c _ _ _ _ xs1 k0 _ (((((((O7.out.ext u8).ext u9).ext u10).ext u11).ext u12).ext u13).away U14.out (fun b hb => by have := RG14.out b hb; have := RS_6.out; have := RS_7.out; have := SZ3.out; have := SZ4.out; have := SZ5.out; have := SZ6.out; have := SZ7.out; have := SZ8.out; have := SZ9.out; have := SZ10.out; have := SZ11.out; have := SZ12.out; have := SZ13.out; have := SZ14.out; omega)) S1.out.row S1.out.psum (by omega)).mono ?_
  rw [HK1.out]
  rintro e w15 ⟨rfl, ⟨ys15, o15, mk15⟩, u15⟩
  have OM15 := Lib.hid o15; clear o15
  have MK15 := Lib.hid mk15; clear mk15
  have U15 := Lib.hid u15; clear u15
  have RG15 : Hid (∀ b, rowBlks r7 xs1 b → _ ∧ b < _) := Lib.hid (fun b hb => by have := O7.out.blks hb; exact ⟨this.1, this.2.1⟩)
  have v15 := v14.of_upd U15.out (fun b hb => by have := RG15.out b hb; have := SZ3.out; have := SZ4.out; have := SZ5.out; have := SZ6.out; have := SZ7.out; have := SZ8.out; have := SZ9.out; have := SZ10.out; have := SZ11.out; have := SZ12.out; have := SZ13.out; have := SZ14.out; omega)
  have SZ15 := Lib.hid U15.out.size
  go_wp2_with fail
  refine (eqIntSS_b true _ _ V0 V0 _ (by simp) (((((((O8.out.ext u9).ext u10).ext u11).ext u12).ext u13).away U14.out (fun b hb => by have := RG14.out b hb; have := RS_6.out; have := RS_8.out; have := SZ3.out; have := SZ4.out; have := SZ5.out; have := SZ6.out; have := SZ7.out; have := SZ8.out; have := SZ9.out; have := SZ10.out; have := SZ11.out; have := SZ12.out; have := SZ13.out; have := SZ14.out; have := SZ15.out; omega)).away U15.out (fun b hb => by have := RG15.out b hb; have := RS_7.out; have := RS_8.out; have := SZ3.out; have := SZ4.out; have := SZ5.out; have := SZ6.out; have := SZ7.out; have := SZ8.out; have := SZ9.out; have := SZ10.out; have := SZ11.out; have := SZ12.out; have := SZ13.out; have := SZ14.out; have := SZ15.out; omega)).grid ((((((((((O5.out.ext u6).ext u7).ext u8).ext u9).ext u10).ext u11).ext u12).ext u13).away U14.out (fun b hb => by have := RG14.out b hb; have := RS_6.out; have := RS_5.out; have := SZ3.out; have := SZ4.out; have := SZ5.out; have := SZ6.out; have := SZ7.out; have := SZ8.out; have := SZ9.out; have := SZ10.out; have := SZ11.out; have := SZ12.out; have := SZ13.out; have := SZ14.out; have := SZ15.out; omega)).away U15.out (fun b hb => by have := RG15.out b hb; have := RS_7.out; have := RS_5.out; have := SZ3.out; have := SZ4.out; have := SZ5.out; have := SZ6.out; have := SZ7.out; have := SZ8.out; have := SZ9.out; have := SZ10.out; have := SZ11.out; have := SZ12.out; have := SZ13.out; have := SZ14.out; have := SZ15.out; omega)).grid).mono ?_
  rintro e w16 ⟨rfl, d16⟩
  have u16 := Drew.ext d16
  have v16 := v15.trans u16
  have SZ16 := Lib.hid u16.size
  go_wp2_with fail
  refine (markIntSS_c _ _ _ _ V0 1 _ ((((((((O8.out.ext u9).ext u10).ext u11).ext u12).ext u13).away U14.out (fun b hb => by have := RG14.out b hb; have := RS_6.out; have := RS_8.out; have := SZ3.out; have := SZ4.out; have := SZ5.out; have := SZ6.out; have := SZ7.out; have := SZ8.out; have := SZ9.out; have := SZ10.out; have := SZ11.out; have := SZ12.out; have := SZ13.out; have := SZ14.out; have := SZ15.out; have := SZ16.out; omega)).away U15.out (fun b hb => by have := RG15.out b hb; have := RS_7.out; have := RS_8.out; have := SZ3.out; have := SZ4.out; have := SZ5.out; have := SZ6.out; have := SZ7.out; have := SZ8.out; have := SZ9.out; have := SZ10.out; have := SZ11.out; have := SZ12.out; have := SZ13.out; have := SZ14.out; have := SZ15.out; have := SZ16.out; omega)).ext u16) RS0.out.row RS0.out.psum (by omega)).mono ?_
  rw [HM0.out]
  rintro e w17 ⟨rfl, ⟨ys17, o17, mk17⟩, u17⟩
  have OM17 := Lib.hid o17; clear o17
  have MK17 := Lib.hid mk17; clear mk17
  have U17 := Lib.hid u17; clear u17
  have RG17 : Hid (∀ b, rowBlks r8 V0 b → _ ∧ b < _) := Lib.hid (fun b hb => by have := O8.out.blks hb; exact ⟨this.1, this.2.1⟩)
  have v17 := v16.of_upd U17.out (fun b hb => by have := RG17.out b hb; have := SZ3.out; have := SZ4.out; have := SZ5.out; have := SZ6.out; have := SZ7.out; have := SZ8.out; have := SZ9.out; have := SZ10.out; have := SZ11.out; have := SZ12.out; have := SZ13.out; have := SZ14.out; have := SZ15.out; have := SZ16.out; omega)
  have SZ17 := Lib.hid U17.out.size
  go_wp2_with fail
  refine (heldIntSS_c _ V0 _ 1 _ OM17.out.grid MK17.out RS0.out.row RS0.out.psum (by omega)).mono ?_
  rw [HM0.out]
  rintro e w17 ⟨rfl, rfl⟩
  go_wp2_with fail
  refine (toIntSS_c _ xs0 _ (H0.out.ext v17) S0.out.len S0.out.row).mono ?_
  rintro e w19 ⟨x19, r19, rfl, o19, u19⟩
  have v19 := v17.trans u19
  have SZ19 := Lib.hid u19.size
  have O19 := Lib.hid o19
  clear o19
  have RS_19 := Lib.hid u19.size
  go_wp2_with fail
  refine (toIntSS_c _ xs1 _ (H1.out.ext v19) S1.out.len S1.out.row).mono ?_
  rintro e w20 ⟨x20, r20, rfl, o20, u20⟩
  have v20 := v19.trans u20
  have SZ20 := Lib.hid u20.size
  have O20 := Lib.hid o20
  clear o20
  have RS_20 := Lib.hid u20.size
  go_wp2_with fail
  refine (implExp_c _ xs0 _ xs1 _ (O19.out.ext u20).grid O20.out.grid ).mono ?_
  rw [HV0.out]
  rw [HV1.out]
  rintro e w21 ⟨x21, r21, rfl, o21, u21⟩
  have v21 := v20.trans u21
  have SZ21 := Lib.hid u21.size
  have O21 := Lib.hid o21
  clear o21
  have RS_21 := Lib.hid u21.size
  go_wp2_with fail
  refine (eqIntSS_b true _ _ V0 V0 _ (by simp) O21.out.grid (((((((((((((((O5.out.ext u6).ext u7).ext u8).ext u9).ext u10).ext u11).ext u12).ext u13).away U14.out (fun b hb => by have := RG14.out b hb; have := RS_6.out; have := RS_5.out; have := SZ3.out; have := SZ4.out; have := SZ5.out; have := SZ6.out; have := SZ7.out; have := SZ8.out; have := SZ9.out; have := SZ10.out; have := SZ11.out; have := SZ12.out; have := SZ13.out; have := SZ14.out; have := SZ15.out; have := SZ16.out; have := SZ17.out; have := SZ19.out; have := SZ20.out; have := SZ21.out; omega)).away U15.out (fun b hb => by have := RG15.out b hb; have := RS_7.out; have := RS_5.out; have := SZ3.out; have := SZ4.out; have := SZ5.out; have := SZ6.out; have := SZ7.out; have := SZ8.out; have := SZ9.out; have := SZ10.out; have := SZ11.out; have := SZ12.out; have := SZ13.out; have := SZ14.out; have := SZ15.out; have := SZ16.out; have := SZ17.out; have := SZ19.out; have := SZ20.out; have := SZ21.out; omega)).ext u16).away U17.out (fun b hb => by have := RG17.out b hb; have := RS_8.out; have := RS_5.out; have := SZ3.out; have := SZ4.out; have := SZ5.out; have := SZ6.out; have := SZ7.out; have := SZ8.out; have := SZ9.out; have := SZ10.out; have := SZ11.out; have := SZ12.out; have := SZ13.out; have := SZ14.out; have := SZ15.out; have := SZ16.out; have := SZ17.out; have := SZ19.out; have := SZ20.out; have := SZ21.out; omega)).ext u19).ext u20).ext u21).grid).mono ?_
  rintro e w22 ⟨rfl, d22⟩
  have u22 := Drew.ext d22
  have v22 := v21.trans u22
  have SZ22 := Lib.hid u22.size
  go_wp2_with fail
  refine (heldIntSS_c _ V0 _ 1 _ ((((OM17.out.ext u19).ext u20).ext u21).ext u22).grid MK17.out RS0.out.row RS0.out.psum (by omega)).mono ?_
  rw [HM0.out]
  rintro e w22 ⟨rfl, rfl⟩
  go_wp2
  go_ret
  exact ⟨rfl, v22⟩
end Go.Proofs.Ytginndoggpfadaa
