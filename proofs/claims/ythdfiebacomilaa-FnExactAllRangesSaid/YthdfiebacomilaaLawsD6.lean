/- The law on AllRanges. -/
import Derived.Test.YthdfiebacomilaaSallr
import Derived.Test.YthdfiebacomilaaRgOf
import Derived.Deep.RegionHeld3
namespace Go.Proofs.Ythdfiebacomilaa
open Go.RowKit

theorem rc_small {n m : Nat} {X : List (List Int)} (h : Rc n m X) (hn : n ≤ 8) (hm : m ≤ 8) : Small X :=
  Small.of_rows8 (by rw [h.len]; exact hn) (fun k hk => by rw [h.row k (by rw [← h.len]; exact hk)]; exact hm)
theorem nil_small : Small [] := Small.of_rows8 (by simp) (fun k hk => by simp at hk)
theorem ar_small {f : Nat → Nat → Int → Int} {T : Tr} {X Y : List (List Int)} (hY : Y = if arB T = true then mapG f X else []) (hX : TrOk T → Rc T.rows.length T.cols.length X) : Small Y := by
  subst hY
  split
  · rename_i h
    simp only [arB, Bool.and_eq_true] at h
    have ho := trB_true.1 h.1
    have hr := hX ho
    have h1 := ho.dims.2.1
    have h2 := ho.dims.2.2.2.1
    apply Small.of_rows8 (by rw [mapG_length, hr.len]; exact h1)
    intro k hk
    rw [mapG_length] at hk
    rw [rowAt_mapG hk, rowF_length, hr.row k (by rw [← hr.len]; exact hk)]; exact h2
  · exact nil_small

set_option maxHeartbeats 3200000 in
theorem lawAllRanges_c (v0 : Value) (xs0 : Tr) (w : World) (h0 : TrR w v0 xs0) (_ : TrWf xs0) :
    Calls Try.prog 10 #[v0] w fun e w' => e = .returned (.bool true) ∧ Ext w w' := by
  have H0 := Lib.hid h0
  obtain ⟨ao0_0, cap0_0, ao0_1, cap0_1, ao0_2, cap0_2, ao0_3, cap0_3, rfl, _, _, _, _⟩ := h0.form; clear h0
  have ba0 := Box.new w 25 #[.slice ao0_0 xs0.rows.length cap0_0, .slice ao0_1 xs0.cols.length cap0_1, .slice ao0_2 xs0.lo.length cap0_2, .slice ao0_3 xs0.hi.length cap0_3] rfl
  have SZ0_0 : Hid ((w.alloc (.cells #[.slice ao0_0 xs0.rows.length cap0_0, .slice ao0_1 xs0.cols.length cap0_1, .slice ao0_2 xs0.lo.length cap0_2, .slice ao0_3 xs0.hi.length cap0_3] 25)).heap.size = w.heap.size + 1) := Lib.hid (by simp)
  have v0 := ((Ext.refl w).alloc (.cells #[.slice ao0_0 xs0.rows.length cap0_0, .slice ao0_1 xs0.cols.length cap0_1, .slice ao0_2 xs0.lo.length cap0_2, .slice ao0_3 xs0.hi.length cap0_3] 25))
  obtain ⟨V0, hV0⟩ : ∃ V, arLo xs0 = V := ⟨_, rfl⟩
  have HV0 := Lib.hid hV0; clear hV0
  obtain ⟨V1, hV1⟩ : ∃ V, arHi xs0 = V := ⟨_, rfl⟩
  have HV1 := Lib.hid hV1; clear hV1
  obtain ⟨V2, hV2⟩ : ∃ V, arB xs0 = V := ⟨_, rfl⟩
  have HV2 := Lib.hid hV2; clear hV2
  have qv2 : (V2 != V2) = false := by simp
  go_enter Try.func10, Try.ntmps10
  have bx1 := ba0
  have cx1_0 := bx1.cell 0 (by simp)
  have cx1_1 := bx1.cell 1 (by simp)
  have cx1_2 := bx1.cell 2 (by simp)
  have cx1_3 := bx1.cell 3 (by simp)
  go_wp2_with fail
  refine (szTransport_c _ xs0 1048576 _ (H0.out.ext v0) (by omega)).mono ?_
  rintro e w2 ⟨t0, rfl, hr0, u2⟩
  have v2 := v0.trans u2
  have SZ2 := Lib.hid u2.size
  rcases hr0 with hr0 | ⟨hr0, hq0, hs0⟩
  · go_wp2
    go_ret
    exact ⟨rfl, v2⟩
  have hz0 : ¬ (t0 < 0) := by omega
  have tr0 : 0 ≤ t0 ∧ t0 ≤ 1048576 := by omega
  have S0 := Lib.hid hs0; clear hs0 hr0 hq0
  obtain ⟨k0, hk0⟩ : ∃ k, 1 + TrSize xs0 = k := ⟨_, rfl⟩
  have kb0 : 1 ≤ k0 ∧ k0 ≤ 4194305 := by have h1 := S0.out.size; omega
  have HK0 := Lib.hid hk0; clear hk0
  have kn : ¬ (k0 < 0) := by omega
  have kd : decide (k0 < 0) = false := by simp; omega
  have RS0 := Lib.hid (show Small V0 by rw [← HV0.out]; exact ar_small rfl (fun h => h.rcLo))
  obtain ⟨m0, hm0⟩ : ∃ m, 1 + (psum V0 V0.length : Int) = m := ⟨_, rfl⟩
  have mb0 : 1 ≤ m0 ∧ m0 ≤ 1048577 := by have h1 := RS0.out.psum V0.length (Nat.le_refl _); omega
  have HM0 := Lib.hid hm0; clear hm0
  have mn0 : ¬ (m0 < 0) := by omega
  have md0 : decide (m0 < 0) = false := by simp; omega
  have RS1 := Lib.hid (show Small V1 by rw [← HV1.out]; exact ar_small rfl (fun h => h.rcHi))
  obtain ⟨m1, hm1⟩ : ∃ m, m0 + (psum V1 V1.length : Int) = m := ⟨_, rfl⟩
  have mb1 : 1 ≤ m1 ∧ m1 ≤ 2097153 := by have h1 := RS1.out.psum V1.length (Nat.le_refl _); omega
  have HM1 := Lib.hid hm1; clear hm1
  have mn1 : ¬ (m1 < 0) := by omega
  have md1 : decide (m1 < 0) = false := by simp; omega
  have mq : (m1 != m1) = false := by simp
  have bx3 := (ba0.ext u2)
  have cx3_0 := bx3.cell 0 (by simp)
  have cx3_1 := bx3.cell 1 (by simp)
  have cx3_2 := bx3.cell 2 (by simp)
  have cx3_3 := bx3.cell 3 (by simp)
  go_wp2_with fail
  refine (toTransport_c _ xs0 _ (H0.out.ext v2) S0.out).mono ?_
  rintro e w4 ⟨x4, rfl, o4, u4⟩
  have v4 := v2.trans u4
  have SZ4 := Lib.hid u4.size
  have O4 := Lib.hid o4
  clear o4
  have RS_4 := Lib.hid u4.size
  go_wp2_with fail
  refine (specAllR_c _ xs0 _ O4.out.read ).mono ?_
  rw [HV0.out]
  rw [HV1.out]
  rw [HV2.out]
  rintro e w5 ⟨x5, r5, x6, r6, mid5, rfl, ml5, mh5, o5, o6, u5⟩
  have v5 := v4.trans u5
  have SZ5 := Lib.hid u5.size
  have O5 := Lib.hid o5; clear o5
  have O6 := Lib.hid o6; clear o6
  have RS_5 := Lib.hid ml5; clear ml5
  have RS_6 := Lib.hid mh5; clear mh5
  have bx7 := (((ba0.ext u2).ext u4).ext u5)
  have cx7_0 := bx7.cell 0 (by simp)
  have cx7_1 := bx7.cell 1 (by simp)
  have cx7_2 := bx7.cell 2 (by simp)
  have cx7_3 := bx7.cell 3 (by simp)
  go_wp2_with fail
  refine (toTransport_c _ xs0 _ (H0.out.ext v5) S0.out).mono ?_
  rintro e w8 ⟨x8, rfl, o8, u8⟩
  have v8 := v5.trans u8
  have SZ8 := Lib.hid u8.size
  have O8 := Lib.hid o8
  clear o8
  have RS_8 := Lib.hid u8.size
  obtain ⟨a8_0, cp8_0, a8_1, cp8_1, a8_2, cp8_2, a8_3, cp8_3, hxx8, _, _, _, _⟩ := O8.out.read.form
  subst hxx8
  have bo8 := Box.new w8 29 #[.slice a8_0 xs0.rows.length cp8_0, .slice a8_1 xs0.cols.length cp8_1, .slice a8_2 xs0.lo.length cp8_2, .slice a8_3 xs0.hi.length cp8_3] rfl
  have u9 := (Ext.refl w8).alloc (.cells #[.slice a8_0 xs0.rows.length cp8_0, .slice a8_1 xs0.cols.length cp8_1, .slice a8_2 xs0.lo.length cp8_2, .slice a8_3 xs0.hi.length cp8_3] 29)
  have v9 := v8.trans u9
  have SZ9 := Lib.hid u9.size
  have SA9 : Hid ((w8.alloc (.cells #[.slice a8_0 xs0.rows.length cp8_0, .slice a8_1 xs0.cols.length cp8_1, .slice a8_2 xs0.lo.length cp8_2, .slice a8_3 xs0.hi.length cp8_3] 29)).heap.size = w8.heap.size + 1) := Lib.hid (by simp)
  have bx10 := bo8
  have cx10_0 := bx10.cell 0 (by simp)
  have cx10_1 := bx10.cell 1 (by simp)
  have cx10_2 := bx10.cell 2 (by simp)
  have cx10_3 := bx10.cell 3 (by simp)
  go_wp2_with fail
  refine (implAllR_c _ xs0 _ (O8.out.ext u9).read ).mono ?_
  rw [HV0.out]
  rw [HV1.out]
  rw [HV2.out]
  rintro e w11 ⟨x11, r11, x12, r12, mid11, rfl, ml11, mh11, o11, o12, u11⟩
  have v11 := v9.trans u11
  have SZ11 := Lib.hid u11.size
  have O11 := Lib.hid o11; clear o11
  have O12 := Lib.hid o12; clear o12
  have RS_11 := Lib.hid ml11; clear ml11
  have RS_12 := Lib.hid mh11; clear mh11
  go_wp2_with fail
  refine (eqIntSS_b true _ _ V0 V0 _ (by simp) O11.out.grid (((O5.out.ext u8).ext u9).ext u11).grid).mono ?_
  rintro e w13 ⟨rfl, d13⟩
  have u13 := Drew.ext d13
  have v13 := v11.trans u13
  have SZ13 := Lib.hid u13.size
  go_wp2_with fail
  refine (eqIntSS_b true _ _ V1 V1 _ (by simp) (O12.out.ext u13).grid ((((O6.out.ext u8).ext u9).ext u11).ext u13).grid).mono ?_
  rintro e w14 ⟨rfl, d14⟩
  have u14 := Drew.ext d14
  have v14 := v13.trans u14
  have SZ14 := Lib.hid u14.size
  have bx15 := ((((((((ba0.ext u2).ext u4).ext u5).ext u8).ext u9).ext u11).ext u13).ext u14)
  have cx15_0 := bx15.cell 0 (by simp)
  have cx15_1 := bx15.cell 1 (by simp)
  have cx15_2 := bx15.cell 2 (by simp)
  have cx15_3 := bx15.cell 3 (by simp)
  have bx16 := (((bo8.ext u11).ext u13).ext u14)
  have cx16_0 := bx16.cell 0 (by simp)
  have cx16_1 := bx16.cell 1 (by simp)
  have cx16_2 := bx16.cell 2 (by simp)
  have cx16_3 := bx16.cell 3 (by simp)
  have HA17 := Lib.hid ((H0.out.ext v14))
  have HX17 := Lib.hid (((((O8.out.ext u9).ext u11).ext u13).ext u14).read)
  go_wp2_with fail
  go_region_held3 (fun w' => w'.cell? ⟨w.heap.size, 0, none⟩ = some (.slice ao0_0 xs0.rows.length cap0_0) ∧ w'.cell? ⟨w.heap.size, 1, none⟩ = some (.slice ao0_1 xs0.cols.length cap0_1) ∧ w'.cell? ⟨w.heap.size, 2, none⟩ = some (.slice ao0_2 xs0.lo.length cap0_2) ∧ w'.cell? ⟨w.heap.size, 3, none⟩ = some (.slice ao0_3 xs0.hi.length cap0_3) ∧ w'.cell? ⟨w8.heap.size, 0, none⟩ = some (.slice a8_0 xs0.rows.length cp8_0) ∧ w'.cell? ⟨w8.heap.size, 1, none⟩ = some (.slice a8_1 xs0.cols.length cp8_1) ∧ w'.cell? ⟨w8.heap.size, 2, none⟩ = some (.slice a8_2 xs0.lo.length cp8_2) ∧ w'.cell? ⟨w8.heap.size, 3, none⟩ = some (.slice a8_3 xs0.hi.length cp8_3))
    (first | exact ⟨Ext.cell u18 (Ext.cell u17 cx15_0), Ext.cell u18 (Ext.cell u17 cx15_1), Ext.cell u18 (Ext.cell u17 cx15_2), Ext.cell u18 (Ext.cell u17 cx15_3), Ext.cell u18 (Ext.cell u17 cx16_0), Ext.cell u18 (Ext.cell u17 cx16_1), Ext.cell u18 (Ext.cell u17 cx16_2), Ext.cell u18 (Ext.cell u17 cx16_3)⟩ | exact ⟨Ext.cell u17 cx15_0, Ext.cell u17 cx15_1, Ext.cell u17 cx15_2, Ext.cell u17 cx15_3, Ext.cell u17 cx16_0, Ext.cell u17 cx16_1, Ext.cell u17 cx16_2, Ext.cell u17 cx16_3⟩ | go_keep)
    ((first
      | (go_at_call 15; refine (toTransport_c _ xs0 _ (HA17.out.ext (Ext.refl _).drew) S0.out).mono ?_; rintro e w17 ⟨x17, rfl, o17, u17⟩)
      | (go_at_call 18; refine (eqTransport_t _ _ xs0 _ ((HX17.out.ext (Ext.refl _).drew).ext u17) o17.read).mono ?_; rintro e w18 ⟨rfl, u18⟩)))
  have e18 := ((Ext.refl w14).drew.trans u17).trans u18
  clear o17
  have v18 := v14.trans e18
  have SZ18 := Lib.hid e18.size
  have bx19 := ((((bo8.ext u11).ext u13).ext u14).ext e18)
  have cx19_0 := bx19.cell 0 (by simp)
  have cx19_1 := bx19.cell 1 (by simp)
  have cx19_2 := bx19.cell 2 (by simp)
  have cx19_3 := bx19.cell 3 (by simp)
  go_wp2_with fail
  refine (markTransport_c _ _ _ xs0 1 _ (((((O8.out.ext u9).ext u11).ext u13).ext u14).ext e18) S0.out (by omega)).mono ?_
  rw [HK0.out]
  rintro e w20 ⟨rfl, ⟨ys20, o20, mk20⟩, u20⟩
  have OM20 := Lib.hid o20; clear o20
  have MK20 := Lib.hid mk20; clear mk20
  have U20 := Lib.hid u20; clear u20
  have RG20 := Lib.hid (rgOf U20.out)
  have v20 := v18.of_upd U20.out (fun b hb => by have := RG20.out b hb; have := SZ0_0.out; have := SZ2.out; have := SZ4.out; have := SZ5.out; have := RS_5.out; have := RS_6.out; have := SZ8.out; have := SZ9.out; have := SA9.out; have := SZ11.out; have := RS_11.out; have := RS_12.out; have := SZ13.out; have := SZ14.out; have := SZ18.out; omega)
  have SZ20 := Lib.hid U20.out.size
  go_wp2_with fail
  refine (eqIntSS_b true _ _ V0 V0 _ (by simp) ((((O11.out.ext u13).ext u14).ext e18).away U20.out (fun b hb => by have := RG20.out b hb; have := RS_8.out; have := RS_11.out; have := SZ0_0.out; have := SZ2.out; have := SZ4.out; have := SZ5.out; have := RS_5.out; have := RS_6.out; have := SZ8.out; have := SZ9.out; have := SA9.out; have := SZ11.out; have := RS_11.out; have := RS_12.out; have := SZ13.out; have := SZ14.out; have := SZ18.out; have := SZ20.out; omega)).grid (((((((O5.out.ext u8).ext u9).ext u11).ext u13).ext u14).ext e18).away U20.out (fun b hb => by have := RG20.out b hb; have := RS_8.out; have := RS_5.out; have := SZ0_0.out; have := SZ2.out; have := SZ4.out; have := SZ5.out; have := RS_5.out; have := RS_6.out; have := SZ8.out; have := SZ9.out; have := SA9.out; have := SZ11.out; have := RS_11.out; have := RS_12.out; have := SZ13.out; have := SZ14.out; have := SZ18.out; have := SZ20.out; omega)).grid).mono ?_
  rintro e w21 ⟨rfl, d21⟩
  have u21 := Drew.ext d21
  have v21 := v20.trans u21
  have SZ21 := Lib.hid u21.size
  go_wp2_with fail
  refine (eqIntSS_b true _ _ V1 V1 _ (by simp) (((((O12.out.ext u13).ext u14).ext e18).away U20.out (fun b hb => by have := RG20.out b hb; have := RS_8.out; have := RS_12.out; have := SZ0_0.out; have := SZ2.out; have := SZ4.out; have := SZ5.out; have := RS_5.out; have := RS_6.out; have := SZ8.out; have := SZ9.out; have := SA9.out; have := SZ11.out; have := RS_11.out; have := RS_12.out; have := SZ13.out; have := SZ14.out; have := SZ18.out; have := SZ20.out; have := SZ21.out; omega)).ext u21).grid ((((((((O6.out.ext u8).ext u9).ext u11).ext u13).ext u14).ext e18).away U20.out (fun b hb => by have := RG20.out b hb; have := RS_8.out; have := RS_6.out; have := SZ0_0.out; have := SZ2.out; have := SZ4.out; have := SZ5.out; have := RS_5.out; have := RS_6.out; have := SZ8.out; have := SZ9.out; have := SA9.out; have := SZ11.out; have := RS_11.out; have := RS_12.out; have := SZ13.out; have := SZ14.out; have := SZ18.out; have := SZ20.out; have := SZ21.out; omega)).ext u21).grid).mono ?_
  rintro e w22 ⟨rfl, d22⟩
  have u22 := Drew.ext d22
  have v22 := v21.trans u22
  have SZ22 := Lib.hid u22.size
  go_wp2_with fail
  refine (markIntSS_c _ _ _ _ V0 1 _ ((((((O11.out.ext u13).ext u14).ext e18).away U20.out (fun b hb => by have := RG20.out b hb; have := RS_8.out; have := RS_11.out; have := SZ0_0.out; have := SZ2.out; have := SZ4.out; have := SZ5.out; have := RS_5.out; have := RS_6.out; have := SZ8.out; have := SZ9.out; have := SA9.out; have := SZ11.out; have := RS_11.out; have := RS_12.out; have := SZ13.out; have := SZ14.out; have := SZ18.out; have := SZ20.out; have := SZ21.out; have := SZ22.out; omega)).ext u21).ext u22) RS0.out.row RS0.out.psum (by omega)).mono ?_
  rw [HM0.out]
  rintro e w23 ⟨rfl, ⟨ys23, o23, mk23⟩, u23⟩
  have OM23 := Lib.hid o23; clear o23
  have MK23 := Lib.hid mk23; clear mk23
  have U23 := Lib.hid u23; clear u23
  have RG23 : Hid (∀ b, rowBlks r11 V0 b → _ ∧ b < _) := Lib.hid (fun b hb => by have := O11.out.blks hb; exact ⟨this.1, this.2.1⟩)
  have v23 := v22.of_upd U23.out (fun b hb => by have := RG23.out b hb; have := SZ0_0.out; have := SZ2.out; have := SZ4.out; have := SZ5.out; have := RS_5.out; have := RS_6.out; have := SZ8.out; have := SZ9.out; have := SA9.out; have := SZ11.out; have := RS_11.out; have := RS_12.out; have := SZ13.out; have := SZ14.out; have := SZ18.out; have := SZ20.out; have := SZ21.out; have := SZ22.out; omega)
  have SZ23 := Lib.hid U23.out.size
  go_wp2_with fail
  refine (markIntSS_c _ _ _ _ V1 m0 _ (((((((O12.out.ext u13).ext u14).ext e18).away U20.out (fun b hb => by have := RG20.out b hb; have := RS_8.out; have := RS_12.out; have := SZ0_0.out; have := SZ2.out; have := SZ4.out; have := SZ5.out; have := RS_5.out; have := RS_6.out; have := SZ8.out; have := SZ9.out; have := SA9.out; have := SZ11.out; have := RS_11.out; have := RS_12.out; have := SZ13.out; have := SZ14.out; have := SZ18.out; have := SZ20.out; have := SZ21.out; have := SZ22.out; have := SZ23.out; omega)).ext u21).ext u22).away U23.out (fun b hb => by have := RG23.out b hb; have := RS_11.out; have := RS_12.out; have := SZ0_0.out; have := SZ2.out; have := SZ4.out; have := SZ5.out; have := RS_5.out; have := RS_6.out; have := SZ8.out; have := SZ9.out; have := SA9.out; have := SZ11.out; have := RS_11.out; have := RS_12.out; have := SZ13.out; have := SZ14.out; have := SZ18.out; have := SZ20.out; have := SZ21.out; have := SZ22.out; have := SZ23.out; omega)) RS1.out.row RS1.out.psum (by omega)).mono ?_
  rw [HM1.out]
  rintro e w24 ⟨rfl, ⟨ys24, o24, mk24⟩, u24⟩
  have OM24 := Lib.hid o24; clear o24
  have MK24 := Lib.hid mk24; clear mk24
  have U24 := Lib.hid u24; clear u24
  have RG24 : Hid (∀ b, rowBlks r12 V1 b → _ ∧ b < _) := Lib.hid (fun b hb => by have := O12.out.blks hb; exact ⟨this.1, this.2.1⟩)
  have v24 := v23.of_upd U24.out (fun b hb => by have := RG24.out b hb; have := SZ0_0.out; have := SZ2.out; have := SZ4.out; have := SZ5.out; have := RS_5.out; have := RS_6.out; have := SZ8.out; have := SZ9.out; have := SA9.out; have := SZ11.out; have := RS_11.out; have := RS_12.out; have := SZ13.out; have := SZ14.out; have := SZ18.out; have := SZ20.out; have := SZ21.out; have := SZ22.out; have := SZ23.out; omega)
  have SZ24 := Lib.hid U24.out.size
  go_wp2_with fail
  refine (heldIntSS_c _ V0 _ 1 _ (OM23.out.away U24.out (fun b hb => by have := RG24.out b hb; have := RS_12.out; have := RS_11.out; have := SZ0_0.out; have := SZ2.out; have := SZ4.out; have := SZ5.out; have := RS_5.out; have := RS_6.out; have := SZ8.out; have := SZ9.out; have := SA9.out; have := SZ11.out; have := RS_11.out; have := RS_12.out; have := SZ13.out; have := SZ14.out; have := SZ18.out; have := SZ20.out; have := SZ21.out; have := SZ22.out; have := SZ23.out; have := SZ24.out; omega)).grid MK23.out RS0.out.row RS0.out.psum (by omega)).mono ?_
  rw [HM0.out]
  rintro e w24 ⟨rfl, rfl⟩
  go_wp2_with fail
  refine (heldIntSS_c _ V1 _ m0 _ OM24.out.grid MK24.out RS1.out.row RS1.out.psum (by omega)).mono ?_
  rw [HM1.out]
  rintro e w24 ⟨rfl, rfl⟩
  have bx27 := ((((((((((((((ba0.ext u2).ext u4).ext u5).ext u8).ext u9).ext u11).ext u13).ext u14).ext e18).upd U20.out (fun hb => by have := RG20.out _ hb; have := RS_8.out; have := SZ0_0.out; have := SZ2.out; have := SZ4.out; have := SZ5.out; have := RS_5.out; have := RS_6.out; have := SZ8.out; have := SZ9.out; have := SA9.out; have := SZ11.out; have := RS_11.out; have := RS_12.out; have := SZ13.out; have := SZ14.out; have := SZ18.out; have := SZ20.out; have := SZ21.out; have := SZ22.out; have := SZ23.out; have := SZ24.out; omega)).ext u21).ext u22).upd U23.out (fun hb => by have := RG23.out _ hb; have := RS_11.out; have := SZ0_0.out; have := SZ2.out; have := SZ4.out; have := SZ5.out; have := RS_5.out; have := RS_6.out; have := SZ8.out; have := SZ9.out; have := SA9.out; have := SZ11.out; have := RS_11.out; have := RS_12.out; have := SZ13.out; have := SZ14.out; have := SZ18.out; have := SZ20.out; have := SZ21.out; have := SZ22.out; have := SZ23.out; have := SZ24.out; omega)).upd U24.out (fun hb => by have := RG24.out _ hb; have := RS_12.out; have := SZ0_0.out; have := SZ2.out; have := SZ4.out; have := SZ5.out; have := RS_5.out; have := RS_6.out; have := SZ8.out; have := SZ9.out; have := SA9.out; have := SZ11.out; have := RS_11.out; have := RS_12.out; have := SZ13.out; have := SZ14.out; have := SZ18.out; have := SZ20.out; have := SZ21.out; have := SZ22.out; have := SZ23.out; have := SZ24.out; omega))
  have cx27_0 := bx27.cell 0 (by simp)
  have cx27_1 := bx27.cell 1 (by simp)
  have cx27_2 := bx27.cell 2 (by simp)
  have cx27_3 := bx27.cell 3 (by simp)
  go_wp2_with fail
  refine (toTransport_c _ xs0 _ (H0.out.ext v24) S0.out).mono ?_
  rintro e w28 ⟨x28, rfl, o28, u28⟩
  have v28 := v24.trans u28
  have SZ28 := Lib.hid u28.size
  have O28 := Lib.hid o28
  clear o28
  have RS_28 := Lib.hid u28.size
  go_wp2_with fail
  refine (implAllR_c _ xs0 _ O28.out.read ).mono ?_
  rw [HV0.out]
  rw [HV1.out]
  rw [HV2.out]
  rintro e w29 ⟨x29, r29, x30, r30, mid29, rfl, ml29, mh29, o29, o30, u29⟩
  have v29 := v28.trans u29
  have SZ29 := Lib.hid u29.size
  have O29 := Lib.hid o29; clear o29
  have O30 := Lib.hid o30; clear o30
  have RS_29 := Lib.hid ml29; clear ml29
  have RS_30 := Lib.hid mh29; clear mh29
  go_wp2_with fail
  refine (eqIntSS_b true _ _ V0 V0 _ (by simp) O29.out.grid (((((((((((((O5.out.ext u8).ext u9).ext u11).ext u13).ext u14).ext e18).away U20.out (fun b hb => by have := RG20.out b hb; have := RS_8.out; have := RS_5.out; have := SZ0_0.out; have := SZ2.out; have := SZ4.out; have := SZ5.out; have := RS_5.out; have := RS_6.out; have := SZ8.out; have := SZ9.out; have := SA9.out; have := SZ11.out; have := RS_11.out; have := RS_12.out; have := SZ13.out; have := SZ14.out; have := SZ18.out; have := SZ20.out; have := SZ21.out; have := SZ22.out; have := SZ23.out; have := SZ24.out; have := SZ28.out; have := SZ29.out; have := RS_29.out; have := RS_30.out; omega)).ext u21).ext u22).away U23.out (fun b hb => by have := RG23.out b hb; have := RS_11.out; have := RS_5.out; have := SZ0_0.out; have := SZ2.out; have := SZ4.out; have := SZ5.out; have := RS_5.out; have := RS_6.out; have := SZ8.out; have := SZ9.out; have := SA9.out; have := SZ11.out; have := RS_11.out; have := RS_12.out; have := SZ13.out; have := SZ14.out; have := SZ18.out; have := SZ20.out; have := SZ21.out; have := SZ22.out; have := SZ23.out; have := SZ24.out; have := SZ28.out; have := SZ29.out; have := RS_29.out; have := RS_30.out; omega)).away U24.out (fun b hb => by have := RG24.out b hb; have := RS_12.out; have := RS_5.out; have := SZ0_0.out; have := SZ2.out; have := SZ4.out; have := SZ5.out; have := RS_5.out; have := RS_6.out; have := SZ8.out; have := SZ9.out; have := SA9.out; have := SZ11.out; have := RS_11.out; have := RS_12.out; have := SZ13.out; have := SZ14.out; have := SZ18.out; have := SZ20.out; have := SZ21.out; have := SZ22.out; have := SZ23.out; have := SZ24.out; have := SZ28.out; have := SZ29.out; have := RS_29.out; have := RS_30.out; omega)).ext u28).ext u29).grid).mono ?_
  rintro e w31 ⟨rfl, d31⟩
  have u31 := Drew.ext d31
  have v31 := v29.trans u31
  have SZ31 := Lib.hid u31.size
  go_wp2_with fail
  refine (eqIntSS_b true _ _ V1 V1 _ (by simp) (O30.out.ext u31).grid ((((((((((((((O6.out.ext u8).ext u9).ext u11).ext u13).ext u14).ext e18).away U20.out (fun b hb => by have := RG20.out b hb; have := RS_8.out; have := RS_6.out; have := SZ0_0.out; have := SZ2.out; have := SZ4.out; have := SZ5.out; have := RS_5.out; have := RS_6.out; have := SZ8.out; have := SZ9.out; have := SA9.out; have := SZ11.out; have := RS_11.out; have := RS_12.out; have := SZ13.out; have := SZ14.out; have := SZ18.out; have := SZ20.out; have := SZ21.out; have := SZ22.out; have := SZ23.out; have := SZ24.out; have := SZ28.out; have := SZ29.out; have := RS_29.out; have := RS_30.out; have := SZ31.out; omega)).ext u21).ext u22).away U23.out (fun b hb => by have := RG23.out b hb; have := RS_11.out; have := RS_6.out; have := SZ0_0.out; have := SZ2.out; have := SZ4.out; have := SZ5.out; have := RS_5.out; have := RS_6.out; have := SZ8.out; have := SZ9.out; have := SA9.out; have := SZ11.out; have := RS_11.out; have := RS_12.out; have := SZ13.out; have := SZ14.out; have := SZ18.out; have := SZ20.out; have := SZ21.out; have := SZ22.out; have := SZ23.out; have := SZ24.out; have := SZ28.out; have := SZ29.out; have := RS_29.out; have := RS_30.out; have := SZ31.out; omega)).away U24.out (fun b hb => by have := RG24.out b hb; have := RS_12.out; have := RS_6.out; have := SZ0_0.out; have := SZ2.out; have := SZ4.out; have := SZ5.out; have := RS_5.out; have := RS_6.out; have := SZ8.out; have := SZ9.out; have := SA9.out; have := SZ11.out; have := RS_11.out; have := RS_12.out; have := SZ13.out; have := SZ14.out; have := SZ18.out; have := SZ20.out; have := SZ21.out; have := SZ22.out; have := SZ23.out; have := SZ24.out; have := SZ28.out; have := SZ29.out; have := RS_29.out; have := RS_30.out; have := SZ31.out; omega)).ext u28).ext u29).ext u31).grid).mono ?_
  rintro e w32 ⟨rfl, d32⟩
  have u32 := Drew.ext d32
  have v32 := v31.trans u32
  have SZ32 := Lib.hid u32.size
  go_wp2_with fail
  refine (heldIntSS_c _ V0 _ 1 _ (((((OM23.out.away U24.out (fun b hb => by have := RG24.out b hb; have := RS_12.out; have := RS_11.out; have := SZ0_0.out; have := SZ2.out; have := SZ4.out; have := SZ5.out; have := RS_5.out; have := RS_6.out; have := SZ8.out; have := SZ9.out; have := SA9.out; have := SZ11.out; have := RS_11.out; have := RS_12.out; have := SZ13.out; have := SZ14.out; have := SZ18.out; have := SZ20.out; have := SZ21.out; have := SZ22.out; have := SZ23.out; have := SZ24.out; have := SZ28.out; have := SZ29.out; have := RS_29.out; have := RS_30.out; have := SZ31.out; have := SZ32.out; omega)).ext u28).ext u29).ext u31).ext u32).grid MK23.out RS0.out.row RS0.out.psum (by omega)).mono ?_
  rw [HM0.out]
  rintro e w32 ⟨rfl, rfl⟩
  go_wp2_with fail
  refine (heldIntSS_c _ V1 _ m0 _ ((((OM24.out.ext u28).ext u29).ext u31).ext u32).grid MK24.out RS1.out.row RS1.out.psum (by omega)).mono ?_
  rw [HM1.out]
  rintro e w32 ⟨rfl, rfl⟩
  go_wp2
  go_ret
  exact ⟨rfl, v32⟩
end Go.Proofs.Ythdfiebacomilaa
