/- The law on RoundingNetwork. -/
import Derived.Test.YtjpomfdmgaambaaRnL
import Derived.Test.YtjpomfdmgaambaaRgOf
import Derived.Deep.RegionHeld3
namespace Go.Proofs.Ytjpomfdmgaambaa
open Go.RowKit

set_option maxHeartbeats 3200000 in
theorem lawRoundingNetwork_c (v0 : Value) (xs0 : List (List Int)) (a1 : Int) (w : World) (h0 : Grid w v0 xs0) (_ : WfG xs0) (i1 : -9223372036854775808 ≤ a1 ∧ a1 ≤ 9223372036854775807) :
    Calls Try.prog 4 #[v0, .int .i64 a1] w fun e w' => e = .returned (.bool true) ∧ Ext w w' := by
  have H0 := Lib.hid h0; clear h0
  have I1 := Lib.hid i1; clear i1
  have v0 := (Ext.refl w)
  obtain ⟨V0, hV0⟩ : ∃ V, rnNV xs0 a1 = V := ⟨_, rfl⟩
  have HV0 := Lib.hid hV0; clear hV0
  obtain ⟨V1, hV1⟩ : ∃ V, rnB xs0 a1 = V := ⟨_, rfl⟩
  have HV1 := Lib.hid hV1; clear hV1
  have qv1 : (V1 != V1) = false := by simp
  go_enter Try.func4, Try.ntmps4
  obtain ⟨t0, ht0⟩ : ∃ t, szG 1048576 xs0 = t := ⟨_, rfl⟩
  have T0 := Lib.hid ht0; clear ht0
  go_wp2_with fail
  refine (szIntSS_c _ xs0 1048576 _ (H0.out.ext v0) (by omega)).mono ?_
  rw [T0.out]
  rintro e w' ⟨rfl, rfl⟩
  by_cases hz0 : t0 < 0
  · go_wp2
    go_ret
    exact ⟨rfl, v0⟩
  have tr0 : 0 ≤ t0 ∧ t0 ≤ 1048576 := by have h1 := T0.out; have h2 := szG_range (left := 1048576) (xss := xs0) (by omega); omega
  have S0 := Lib.hid (Small.of_szG (left := 1048576) (xss := xs0) (by omega) (by have h1 := T0.out; omega))
  obtain ⟨k0, hk0⟩ : ∃ k, 1 + (psum xs0 xs0.length : Int) = k := ⟨_, rfl⟩
  have kb0 : 1 ≤ k0 ∧ k0 ≤ 1048577 := by have h1 := S0.out.psum xs0.length (Nat.le_refl _); omega
  have HK0 := Lib.hid hk0; clear hk0
  have kn : ¬ (k0 < 0) := by omega
  have kd : decide (k0 < 0) = false := by simp; omega
  have RS0 := Lib.hid (show TrSmall V0 by rw [← HV0.out]; exact rnNV_small _ _)
  obtain ⟨m0, hm0⟩ : ∃ m, 1 + TrSize V0 = m := ⟨_, rfl⟩
  have mb0 : 1 ≤ m0 ∧ m0 ≤ 4194305 := by have h1 := RS0.out.size; omega
  have HM0 := Lib.hid hm0; clear hm0
  have mn0 : ¬ (m0 < 0) := by omega
  have md0 : decide (m0 < 0) = false := by simp; omega
  have mq : (m0 != m0) = false := by simp
  go_wp2_with fail
  refine (toIntSS_c _ xs0 _ (H0.out.ext v0) S0.out.len S0.out.row).mono ?_
  rintro e w2 ⟨x2, r2, rfl, o2, u2⟩
  have v2 := v0.trans u2
  have SZ2 := Lib.hid u2.size
  have O2 := Lib.hid o2
  clear o2
  have RS_2 := Lib.hid u2.size
  go_wp2_with fail
  refine (specRn_c _ xs0 a1 _ O2.out.grid ).mono ?_
  rw [HV0.out]
  rw [HV1.out]
  rintro e w3 ⟨x3, rfl, o3, u3⟩
  have v3 := v2.trans u3
  have SZ3 := Lib.hid u3.size
  have O3 := Lib.hid o3
  clear o3
  have RS_3 := Lib.hid u3.size
  obtain ⟨a3_0, cp3_0, a3_1, cp3_1, a3_2, cp3_2, a3_3, cp3_3, hxx3, _, _, _, _⟩ := O3.out.read.form
  subst hxx3
  have bo3 := Box.new w3 30 #[.slice a3_0 V0.rows.length cp3_0, .slice a3_1 V0.cols.length cp3_1, .slice a3_2 V0.lo.length cp3_2, .slice a3_3 V0.hi.length cp3_3] rfl
  have u4 := (Ext.refl w3).alloc (.cells #[.slice a3_0 V0.rows.length cp3_0, .slice a3_1 V0.cols.length cp3_1, .slice a3_2 V0.lo.length cp3_2, .slice a3_3 V0.hi.length cp3_3] 30)
  have v4 := v3.trans u4
  have SZ4 := Lib.hid u4.size
  have SA4 : Hid ((w3.alloc (.cells #[.slice a3_0 V0.rows.length cp3_0, .slice a3_1 V0.cols.length cp3_1, .slice a3_2 V0.lo.length cp3_2, .slice a3_3 V0.hi.length cp3_3] 30)).heap.size = w3.heap.size + 1) := Lib.hid (by simp)
  go_wp2_with fail
  refine (toIntSS_c _ xs0 _ (H0.out.ext v4) S0.out.len S0.out.row).mono ?_
  rintro e w5 ⟨x5, r5, rfl, o5, u5⟩
  have v5 := v4.trans u5
  have SZ5 := Lib.hid u5.size
  have O5 := Lib.hid o5
  clear o5
  have RS_5 := Lib.hid u5.size
  go_wp2_with fail
  refine (implRn_c _ xs0 a1 _ O5.out.grid ).mono ?_
  rw [HV0.out]
  rw [HV1.out]
  rintro e w6 ⟨x6, rfl, o6, u6⟩
  have v6 := v5.trans u6
  have SZ6 := Lib.hid u6.size
  have O6 := Lib.hid o6
  clear o6
  have RS_6 := Lib.hid u6.size
  obtain ⟨a6_0, cp6_0, a6_1, cp6_1, a6_2, cp6_2, a6_3, cp6_3, hxx6, _, _, _, _⟩ := O6.out.read.form
  subst hxx6
  have bo6 := Box.new w6 30 #[.slice a6_0 V0.rows.length cp6_0, .slice a6_1 V0.cols.length cp6_1, .slice a6_2 V0.lo.length cp6_2, .slice a6_3 V0.hi.length cp6_3] rfl
  have u7 := (Ext.refl w6).alloc (.cells #[.slice a6_0 V0.rows.length cp6_0, .slice a6_1 V0.cols.length cp6_1, .slice a6_2 V0.lo.length cp6_2, .slice a6_3 V0.hi.length cp6_3] 30)
  have v7 := v6.trans u7
  have SZ7 := Lib.hid u7.size
  have SA7 : Hid ((w6.alloc (.cells #[.slice a6_0 V0.rows.length cp6_0, .slice a6_1 V0.cols.length cp6_1, .slice a6_2 V0.lo.length cp6_2, .slice a6_3 V0.hi.length cp6_3] 30)).heap.size = w6.heap.size + 1) := Lib.hid (by simp)
  have bx8 := bo6
  have cx8_0 := bx8.cell 0 (by simp)
  have cx8_1 := bx8.cell 1 (by simp)
  have cx8_2 := bx8.cell 2 (by simp)
  have cx8_3 := bx8.cell 3 (by simp)
  have bx9 := (((bo3.ext u5).ext u6).ext u7)
  have cx9_0 := bx9.cell 0 (by simp)
  have cx9_1 := bx9.cell 1 (by simp)
  have cx9_2 := bx9.cell 2 (by simp)
  have cx9_3 := bx9.cell 3 (by simp)
  go_wp2_with fail
  refine (eqTransport_t _ _ V0 _ (O6.out.ext u7).read ((((O3.out.ext u4).ext u5).ext u6).ext u7).read).mono ?_
  rintro e w10 ⟨rfl, u10⟩
  have v10 := v7.trans u10
  have SZ10 := Lib.hid u10.size
  go_wp2_with fail
  refine (toIntSS_c _ xs0 _ (H0.out.ext v10) S0.out.len S0.out.row).mono ?_
  rintro e w11 ⟨x11, r11, rfl, o11, u11⟩
  have v11 := v10.trans u11
  have SZ11 := Lib.hid u11.size
  have O11 := Lib.hid o11
  clear o11
  have RS_11 := Lib.hid u11.size
  go_wp2_with fail
  refine (eqIntSS_b true _ _ xs0 xs0 _ (by simp) ((((O5.out.ext u6).ext u7).ext u10).ext u11).grid O11.out.grid).mono ?_
  rintro e w12 ⟨rfl, d12⟩
  have u12 := Drew.ext d12
  have v12 := v11.trans u12
  have SZ12 := Lib.hid u12.size
  go_wp2_with fail
  refine (markIntSS_c _ _ _ _ xs0 1 _ (((((O5.out.ext u6).ext u7).ext u10).ext u11).ext u12) S0.out.row S0.out.psum (by omega)).mono ?_
  rw [HK0.out]
  rintro e w13 ⟨rfl, ⟨ys13, o13, mk13⟩, u13⟩
  have OM13 := Lib.hid o13; clear o13
  have MK13 := Lib.hid mk13; clear mk13
  have U13 := Lib.hid u13; clear u13
  have RG13 : Hid (∀ b, rowBlks r5 xs0 b → _ ∧ b < _) := Lib.hid (fun b hb => by have := O5.out.blks hb; exact ⟨this.1, this.2.1⟩)
  have v13 := v12.of_upd U13.out (fun b hb => by have := RG13.out b hb; have := SZ2.out; have := SZ3.out; have := SZ4.out; have := SA4.out; have := SZ5.out; have := SZ6.out; have := SZ7.out; have := SA7.out; have := SZ10.out; have := SZ11.out; have := SZ12.out; omega)
  have SZ13 := Lib.hid U13.out.size
  have bx14 := ((((bo6.ext u10).ext u11).ext u12).upd U13.out (fun hb => by have := RG13.out _ hb; have := RS_5.out; have := SZ2.out; have := SZ3.out; have := SZ4.out; have := SA4.out; have := SZ5.out; have := SZ6.out; have := SZ7.out; have := SA7.out; have := SZ10.out; have := SZ11.out; have := SZ12.out; have := SZ13.out; omega))
  have cx14_0 := bx14.cell 0 (by simp)
  have cx14_1 := bx14.cell 1 (by simp)
  have cx14_2 := bx14.cell 2 (by simp)
  have cx14_3 := bx14.cell 3 (by simp)
  have bx15 := (((((((bo3.ext u5).ext u6).ext u7).ext u10).ext u11).ext u12).upd U13.out (fun hb => by have := RG13.out _ hb; have := RS_5.out; have := SZ2.out; have := SZ3.out; have := SZ4.out; have := SA4.out; have := SZ5.out; have := SZ6.out; have := SZ7.out; have := SA7.out; have := SZ10.out; have := SZ11.out; have := SZ12.out; have := SZ13.out; omega))
  have cx15_0 := bx15.cell 0 (by simp)
  have cx15_1 := bx15.cell 1 (by simp)
  have cx15_2 := bx15.cell 2 (by simp)
  have cx15_3 := bx15.cell 3 (by simp)
  go_wp2_with fail
  refine (eqTransport_t _ _ V0 _ (((((O6.out.ext u7).ext u10).ext u11).ext u12).away U13.out (fun b hb => by have := RG13.out b hb; have := RS_5.out; have := RS_6.out; have := SZ2.out; have := SZ3.out; have := SZ4.out; have := SA4.out; have := SZ5.out; have := SZ6.out; have := SZ7.out; have := SA7.out; have := SZ10.out; have := SZ11.out; have := SZ12.out; have := SZ13.out; omega)).read ((((((((O3.out.ext u4).ext u5).ext u6).ext u7).ext u10).ext u11).ext u12).away U13.out (fun b hb => by have := RG13.out b hb; have := RS_5.out; have := RS_3.out; have := SZ2.out; have := SZ3.out; have := SZ4.out; have := SA4.out; have := SZ5.out; have := SZ6.out; have := SZ7.out; have := SA7.out; have := SZ10.out; have := SZ11.out; have := SZ12.out; have := SZ13.out; omega)).read).mono ?_
  rintro e w16 ⟨rfl, u16⟩
  have v16 := v13.trans u16
  have SZ16 := Lib.hid u16.size
  have bx17 := (((((bo6.ext u10).ext u11).ext u12).upd U13.out (fun hb => by have := RG13.out _ hb; have := RS_5.out; have := SZ2.out; have := SZ3.out; have := SZ4.out; have := SA4.out; have := SZ5.out; have := SZ6.out; have := SZ7.out; have := SA7.out; have := SZ10.out; have := SZ11.out; have := SZ12.out; have := SZ13.out; have := SZ16.out; omega)).ext u16)
  have cx17_0 := bx17.cell 0 (by simp)
  have cx17_1 := bx17.cell 1 (by simp)
  have cx17_2 := bx17.cell 2 (by simp)
  have cx17_3 := bx17.cell 3 (by simp)
  go_wp2_with fail
  refine (markTransport_c _ _ _ V0 1 _ ((((((O6.out.ext u7).ext u10).ext u11).ext u12).away U13.out (fun b hb => by have := RG13.out b hb; have := RS_5.out; have := RS_6.out; have := SZ2.out; have := SZ3.out; have := SZ4.out; have := SA4.out; have := SZ5.out; have := SZ6.out; have := SZ7.out; have := SA7.out; have := SZ10.out; have := SZ11.out; have := SZ12.out; have := SZ13.out; have := SZ16.out; omega)).ext u16) RS0.out (by omega)).mono ?_
  rw [HM0.out]
  rintro e w18 ⟨rfl, ⟨ys18, o18, mk18⟩, u18⟩
  have OM18 := Lib.hid o18; clear o18
  have MK18 := Lib.hid mk18; clear mk18
  have U18 := Lib.hid u18; clear u18
  have RG18 := Lib.hid (rgOf U18.out)
  have v18 := v16.of_upd U18.out (fun b hb => by have := RG18.out b hb; have := SZ2.out; have := SZ3.out; have := SZ4.out; have := SA4.out; have := SZ5.out; have := SZ6.out; have := SZ7.out; have := SA7.out; have := SZ10.out; have := SZ11.out; have := SZ12.out; have := SZ13.out; have := SZ16.out; omega)
  have SZ18 := Lib.hid U18.out.size
  have bx19 := ((((((bo6.ext u10).ext u11).ext u12).upd U13.out (fun hb => by have := RG13.out _ hb; have := RS_5.out; have := SZ2.out; have := SZ3.out; have := SZ4.out; have := SA4.out; have := SZ5.out; have := SZ6.out; have := SZ7.out; have := SA7.out; have := SZ10.out; have := SZ11.out; have := SZ12.out; have := SZ13.out; have := SZ16.out; have := SZ18.out; omega)).ext u16).upd U18.out (fun hb => by have := RG18.out _ hb; have := RS_6.out; have := SZ2.out; have := SZ3.out; have := SZ4.out; have := SA4.out; have := SZ5.out; have := SZ6.out; have := SZ7.out; have := SA7.out; have := SZ10.out; have := SZ11.out; have := SZ12.out; have := SZ13.out; have := SZ16.out; have := SZ18.out; omega))
  have cx19_0 := bx19.cell 0 (by simp)
  have cx19_1 := bx19.cell 1 (by simp)
  have cx19_2 := bx19.cell 2 (by simp)
  have cx19_3 := bx19.cell 3 (by simp)
  go_wp2_with fail
  refine (heldTransport_c _ V0 ys18 1 _ OM18.out.read MK18.out RS0.out (by omega)).mono ?_
  rw [HM0.out]
  rintro e w20 ⟨rfl, u20⟩
  have v20 := v18.trans u20
  have SZ20 := Lib.hid u20.size
  go_wp2_with fail
  refine (toIntSS_c _ xs0 _ (H0.out.ext v20) S0.out.len S0.out.row).mono ?_
  rintro e w21 ⟨x21, r21, rfl, o21, u21⟩
  have v21 := v20.trans u21
  have SZ21 := Lib.hid u21.size
  have O21 := Lib.hid o21
  clear o21
  have RS_21 := Lib.hid u21.size
  go_wp2_with fail
  refine (implRn_c _ xs0 a1 _ O21.out.grid ).mono ?_
  rw [HV0.out]
  rw [HV1.out]
  rintro e w22 ⟨x22, rfl, o22, u22⟩
  have v22 := v21.trans u22
  have SZ22 := Lib.hid u22.size
  have O22 := Lib.hid o22
  clear o22
  have RS_22 := Lib.hid u22.size
  obtain ⟨a22_0, cp22_0, a22_1, cp22_1, a22_2, cp22_2, a22_3, cp22_3, hxx22, _, _, _, _⟩ := O22.out.read.form
  subst hxx22
  have bo22 := Box.new w22 30 #[.slice a22_0 V0.rows.length cp22_0, .slice a22_1 V0.cols.length cp22_1, .slice a22_2 V0.lo.length cp22_2, .slice a22_3 V0.hi.length cp22_3] rfl
  have u23 := (Ext.refl w22).alloc (.cells #[.slice a22_0 V0.rows.length cp22_0, .slice a22_1 V0.cols.length cp22_1, .slice a22_2 V0.lo.length cp22_2, .slice a22_3 V0.hi.length cp22_3] 30)
  have v23 := v22.trans u23
  have SZ23 := Lib.hid u23.size
  have SA23 : Hid ((w22.alloc (.cells #[.slice a22_0 V0.rows.length cp22_0, .slice a22_1 V0.cols.length cp22_1, .slice a22_2 V0.lo.length cp22_2, .slice a22_3 V0.hi.length cp22_3] 30)).heap.size = w22.heap.size + 1) := Lib.hid (by simp)
  have bx24 := bo22
  have cx24_0 := bx24.cell 0 (by simp)
  have cx24_1 := bx24.cell 1 (by simp)
  have cx24_2 := bx24.cell 2 (by simp)
  have cx24_3 := bx24.cell 3 (by simp)
  have bx25 := (((((((((((((bo3.ext u5).ext u6).ext u7).ext u10).ext u11).ext u12).upd U13.out (fun hb => by have := RG13.out _ hb; have := RS_5.out; have := SZ2.out; have := SZ3.out; have := SZ4.out; have := SA4.out; have := SZ5.out; have := SZ6.out; have := SZ7.out; have := SA7.out; have := SZ10.out; have := SZ11.out; have := SZ12.out; have := SZ13.out; have := SZ16.out; have := SZ18.out; have := SZ20.out; have := SZ21.out; have := SZ22.out; have := SZ23.out; have := SA23.out; omega)).ext u16).upd U18.out (fun hb => by have := RG18.out _ hb; have := RS_6.out; have := SZ2.out; have := SZ3.out; have := SZ4.out; have := SA4.out; have := SZ5.out; have := SZ6.out; have := SZ7.out; have := SA7.out; have := SZ10.out; have := SZ11.out; have := SZ12.out; have := SZ13.out; have := SZ16.out; have := SZ18.out; have := SZ20.out; have := SZ21.out; have := SZ22.out; have := SZ23.out; have := SA23.out; omega)).ext u20).ext u21).ext u22).ext u23)
  have cx25_0 := bx25.cell 0 (by simp)
  have cx25_1 := bx25.cell 1 (by simp)
  have cx25_2 := bx25.cell 2 (by simp)
  have cx25_3 := bx25.cell 3 (by simp)
  go_wp2_with fail
  refine (eqTransport_t _ _ V0 _ (O22.out.ext u23).read ((((((((((((((O3.out.ext u4).ext u5).ext u6).ext u7).ext u10).ext u11).ext u12).away U13.out (fun b hb => by have := RG13.out b hb; have := RS_5.out; have := RS_3.out; have := SZ2.out; have := SZ3.out; have := SZ4.out; have := SA4.out; have := SZ5.out; have := SZ6.out; have := SZ7.out; have := SA7.out; have := SZ10.out; have := SZ11.out; have := SZ12.out; have := SZ13.out; have := SZ16.out; have := SZ18.out; have := SZ20.out; have := SZ21.out; have := SZ22.out; have := SZ23.out; have := SA23.out; omega)).ext u16).away U18.out (fun b hb => by have := RG18.out b hb; have := RS_6.out; have := RS_3.out; have := SZ2.out; have := SZ3.out; have := SZ4.out; have := SA4.out; have := SZ5.out; have := SZ6.out; have := SZ7.out; have := SA7.out; have := SZ10.out; have := SZ11.out; have := SZ12.out; have := SZ13.out; have := SZ16.out; have := SZ18.out; have := SZ20.out; have := SZ21.out; have := SZ22.out; have := SZ23.out; have := SA23.out; omega)).ext u20).ext u21).ext u22).ext u23).read).mono ?_
  rintro e w26 ⟨rfl, u26⟩
  have v26 := v23.trans u26
  have SZ26 := Lib.hid u26.size
  have bx27 := (((((((((((bo6.ext u10).ext u11).ext u12).upd U13.out (fun hb => by have := RG13.out _ hb; have := RS_5.out; have := SZ2.out; have := SZ3.out; have := SZ4.out; have := SA4.out; have := SZ5.out; have := SZ6.out; have := SZ7.out; have := SA7.out; have := SZ10.out; have := SZ11.out; have := SZ12.out; have := SZ13.out; have := SZ16.out; have := SZ18.out; have := SZ20.out; have := SZ21.out; have := SZ22.out; have := SZ23.out; have := SA23.out; have := SZ26.out; omega)).ext u16).upd U18.out (fun hb => by have := RG18.out _ hb; have := RS_6.out; have := SZ2.out; have := SZ3.out; have := SZ4.out; have := SA4.out; have := SZ5.out; have := SZ6.out; have := SZ7.out; have := SA7.out; have := SZ10.out; have := SZ11.out; have := SZ12.out; have := SZ13.out; have := SZ16.out; have := SZ18.out; have := SZ20.out; have := SZ21.out; have := SZ22.out; have := SZ23.out; have := SA23.out; have := SZ26.out; omega)).ext u20).ext u21).ext u22).ext u23).ext u26)
  have cx27_0 := bx27.cell 0 (by simp)
  have cx27_1 := bx27.cell 1 (by simp)
  have cx27_2 := bx27.cell 2 (by simp)
  have cx27_3 := bx27.cell 3 (by simp)
  go_wp2_with fail
  refine (heldTransport_c _ V0 ys18 1 _ (((((OM18.out.ext u20).ext u21).ext u22).ext u23).ext u26).read MK18.out RS0.out (by omega)).mono ?_
  rw [HM0.out]
  rintro e w28 ⟨rfl, u28⟩
  have v28 := v26.trans u28
  have SZ28 := Lib.hid u28.size
  go_wp2
  go_ret
  exact ⟨rfl, v28⟩
end Go.Proofs.Ytjpomfdmgaambaa
