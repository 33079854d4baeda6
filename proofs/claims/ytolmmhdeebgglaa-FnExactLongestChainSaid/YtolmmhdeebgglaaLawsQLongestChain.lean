/- The law on LongestChain. -/
import Derived.Test.YtolmmhdeebgglaaLcI
import Derived.Test.YtolmmhdeebgglaaRgOf
import Derived.Deep.RegionHeld3
namespace Go.Proofs.Ytolmmhdeebgglaa
open Go.RowKit

set_option maxHeartbeats 3200000 in
theorem lawLongestChain_c (v0 : Value) (xs0 : Ge) (v1 : Value) (xs1 : List Vr) (v2 : Value) (xs2 : List Ta) (w : World) (h0 : GeR w v0 xs0) (h1 : Vrs w v1 xs1) (h2 : Tabs w v2 xs2) (_ : GeWf xs0) (f1 : WfV xs1) (f2 : WfT xs2) :
    Calls Try.prog 4 #[v0, v1, v2] w fun e w' => e = .returned (.bool true) ∧ Ext w w' := by
  have H0 := Lib.hid h0
  obtain ⟨ao0_0, cap0_0, rfl, _⟩ := h0.form; clear h0
  have H1 := Lib.hid h1; clear h1
  have F1 := Lib.hid f1; clear f1
  have H2 := Lib.hid h2; clear h2
  have F2 := Lib.hid f2; clear f2
  have ba0 := Box.new w 24 #[.slice ao0_0 xs0.par.length cap0_0] rfl
  have SZ0_0 : Hid ((w.alloc (.cells #[.slice ao0_0 xs0.par.length cap0_0] 24)).heap.size = w.heap.size + 1) := Lib.hid (by simp)
  have v0 := ((Ext.refl w).alloc (.cells #[.slice ao0_0 xs0.par.length cap0_0] 24))
  obtain ⟨V0, hV0⟩ : ∃ V, lcV xs0.par xs1 xs2 = V := ⟨_, rfl⟩
  have HV0 := Lib.hid hV0; clear hV0
  obtain ⟨V1, hV1⟩ : ∃ V, planB xs0.par xs1 xs2 = V := ⟨_, rfl⟩
  have HV1 := Lib.hid hV1; clear hV1
  have qv1 : (V1 != V1) = false := by simp
  go_enter Try.func4, Try.ntmps4
  have bx1 := ba0
  have cx1_0 := bx1.cell 0 (by simp)
  go_wp2_with fail
  refine (szGeo_c _ xs0 1048576 _ (H0.out.ext v0) (by omega)).mono ?_
  rintro e w2 ⟨t0, rfl, hr0, u2⟩
  have v2 := v0.trans u2
  have SZ2 := Lib.hid u2.size
  rcases hr0 with hr0 | ⟨hr0, hq0, hs0⟩
  · go_wp2
    go_ret
    exact ⟨rfl, v2⟩
  have hz0 : ¬ (t0 < 0) := by omega
  have tr0 : 0 ≤ t0 ∧ t0 ≤ 1048576 := by omega
  have S0 := Lib.hid hs0; clear hs0 hr0 hq0
  go_wp2_with fail
  refine (szVariableS_c _ xs1 t0 _ (H1.out.ext v2) F1.out (by omega)).mono ?_
  rintro e w3 ⟨t1, rfl, hr1, u3⟩
  have v3 := v2.trans u3
  have SZ3 := Lib.hid u3.size
  rcases hr1 with hr1 | ⟨hr1, hq1, hs1⟩
  · go_wp2
    go_ret
    exact ⟨rfl, v3⟩
  have hz1 : ¬ (t1 < 0) := by omega
  have tr1 : 0 ≤ t1 ∧ t1 ≤ 1048576 := by omega
  have S1 := Lib.hid hs1; clear hs1 hr1 hq1
  go_wp2_with fail
  refine (szTableS_c _ xs2 t1 _ (H2.out.ext v3) (by omega)).mono ?_
  rintro e w4 ⟨t2, rfl, hr2, u4⟩
  have v4 := v3.trans u4
  have SZ4 := Lib.hid u4.size
  rcases hr2 with hr2 | ⟨hr2, hq2, hs2⟩
  · go_wp2
    go_ret
    exact ⟨rfl, v4⟩
  have hz2 : ¬ (t2 < 0) := by omega
  have tr2 : 0 ≤ t2 ∧ t2 ≤ 1048576 := by omega
  have S2 := Lib.hid hs2; clear hs2 hr2 hq2
  obtain ⟨k0, hk0⟩ : ∃ k, 1 + GeSize xs0 = k := ⟨_, rfl⟩
  have kb0 : 1 ≤ k0 ∧ k0 ≤ 4194305 := by have h1 := S0.out.size; omega
  have HK0 := Lib.hid hk0; clear hk0
  obtain ⟨k1, hk1⟩ : ∃ k, k0 + 2 * (xs1.length : Int) = k := ⟨_, rfl⟩
  have kb1 : 1 ≤ k1 ∧ k1 ≤ 6291457 := by have h1 := S1.out.1; omega
  have HK1 := Lib.hid hk1; clear hk1
  obtain ⟨k2, hk2⟩ : ∃ k, k1 + (tz xs2 xs2.length : Int) = k := ⟨_, rfl⟩
  have kb2 : 1 ≤ k2 ∧ k2 ≤ 8388609 := by have h1 := S2.out.2.2; omega
  have HK2 := Lib.hid hk2; clear hk2
  have kn : ¬ (k2 < 0) := by omega
  have kd : decide (k2 < 0) = false := by simp; omega
  have RS0 := Lib.hid (show V0.length ≤ 1048576 by rw [← HV0.out]; exact lcV_len _ _ _)
  obtain ⟨m0, hm0⟩ : ∃ m, 1 + (V0.length : Int) = m := ⟨_, rfl⟩
  have mb0 : 1 ≤ m0 ∧ m0 ≤ 1048577 := by have h1 := RS0.out; omega
  have HM0 := Lib.hid hm0; clear hm0
  have mn0 : ¬ (m0 < 0) := by omega
  have md0 : decide (m0 < 0) = false := by simp; omega
  have mq : (m0 != m0) = false := by simp
  have bx5 := (((ba0.ext u2).ext u3).ext u4)
  have cx5_0 := bx5.cell 0 (by simp)
  go_wp2_with fail
  refine (toGeo_c _ xs0 _ (H0.out.ext v4) S0.out).mono ?_
  rintro e w6 ⟨x6, rfl, o6, u6⟩
  have v6 := v4.trans u6
  have SZ6 := Lib.hid u6.size
  have O6 := Lib.hid o6
  clear o6
  have RS_6 := Lib.hid u6.size
  go_wp2_with fail
  refine (toVariableS_c _ xs1 _ (H1.out.ext v6) S1.out.1).mono ?_
  rintro e w7 ⟨x7, rfl, o7, u7⟩
  have v7 := v6.trans u7
  have SZ7 := Lib.hid u7.size
  have O7 := Lib.hid o7
  clear o7
  have RS_7 := Lib.hid u7.size
  go_wp2_with fail
  refine (toTableS_c _ xs2 _ (H2.out.ext v7) S2.out).mono ?_
  rintro e w8 ⟨x8, r8, rfl, o8, u8⟩
  have v8 := v7.trans u8
  have SZ8 := Lib.hid u8.size
  have O8 := Lib.hid o8
  clear o8
  have RS_8 := Lib.hid u8.size
  go_wp2_with fail
  refine (specChain_c _ xs0 _ xs1 _ xs2 _ ((O6.out.ext u7).ext u8).read (O7.out.ext u8).read O8.out.read F1.out ).mono ?_
  rw [HV0.out]
  rw [HV1.out]
  rintro e w9 ⟨x9, rfl, o9, u9⟩
  have v9 := v8.trans u9
  have SZ9 := Lib.hid u9.size
  have O9 := Lib.hid o9
  clear o9
  have RS_9 := Lib.hid u9.size
  have bx10 := (((((((ba0.ext u2).ext u3).ext u4).ext u6).ext u7).ext u8).ext u9)
  have cx10_0 := bx10.cell 0 (by simp)
  go_wp2_with fail
  refine (toGeo_c _ xs0 _ (H0.out.ext v9) S0.out).mono ?_
  rintro e w11 ⟨x11, rfl, o11, u11⟩
  have v11 := v9.trans u11
  have SZ11 := Lib.hid u11.size
  have O11 := Lib.hid o11
  clear o11
  have RS_11 := Lib.hid u11.size
  obtain ⟨a11_0, cp11_0, hxx11, _⟩ := O11.out.read.form
  subst hxx11
  have bo11 := Box.new w11 33 #[.slice a11_0 xs0.par.length cp11_0] rfl
  have u12 := (Ext.refl w11).alloc (.cells #[.slice a11_0 xs0.par.length cp11_0] 33)
  have v12 := v11.trans u12
  have SZ12 := Lib.hid u12.size
  have SA12 : Hid ((w11.alloc (.cells #[.slice a11_0 xs0.par.length cp11_0] 33)).heap.size = w11.heap.size + 1) := Lib.hid (by simp)
  go_wp2_with fail
  refine (toVariableS_c _ xs1 _ (H1.out.ext v12) S1.out.1).mono ?_
  rintro e w13 ⟨x13, rfl, o13, u13⟩
  have v13 := v12.trans u13
  have SZ13 := Lib.hid u13.size
  have O13 := Lib.hid o13
  clear o13
  have RS_13 := Lib.hid u13.size
  go_wp2_with fail
  refine (toTableS_c _ xs2 _ (H2.out.ext v13) S2.out).mono ?_
  rintro e w14 ⟨x14, r14, rfl, o14, u14⟩
  have v14 := v13.trans u14
  have SZ14 := Lib.hid u14.size
  have O14 := Lib.hid o14
  clear o14
  have RS_14 := Lib.hid u14.size
  have bx15 := ((bo11.ext u13).ext u14)
  have cx15_0 := bx15.cell 0 (by simp)
  go_wp2_with fail
  refine (implChain_c _ xs0 _ xs1 _ xs2 _ (((O11.out.ext u12).ext u13).ext u14).read (O13.out.ext u14).read O14.out.read F1.out ).mono ?_
  rw [HV0.out]
  rw [HV1.out]
  rintro e w16 ⟨x16, rfl, o16, u16⟩
  have v16 := v14.trans u16
  have SZ16 := Lib.hid u16.size
  have O16 := Lib.hid o16
  clear o16
  have RS_16 := Lib.hid u16.size
  go_wp2_with fail
  refine (eqIntS_b true _ _ V0 V0 _ (by simp) O16.out.ints (((((O9.out.ext u11).ext u12).ext u13).ext u14).ext u16).ints).mono ?_
  rintro e w17 ⟨rfl, d17⟩
  have u17 := Drew.ext d17
  have v17 := v16.trans u17
  have SZ17 := Lib.hid u17.size
  have bx18 := (((((((((((((ba0.ext u2).ext u3).ext u4).ext u6).ext u7).ext u8).ext u9).ext u11).ext u12).ext u13).ext u14).ext u16).ext u17)
  have cx18_0 := bx18.cell 0 (by simp)
  have bx19 := ((((bo11.ext u13).ext u14).ext u16).ext u17)
  have cx19_0 := bx19.cell 0 (by simp)
  have HA20 := Lib.hid ((H0.out.ext v17))
  have HX20 := Lib.hid ((((((O11.out.ext u12).ext u13).ext u14).ext u16).ext u17).read)
  go_wp2_with fail
  go_region_held3 (fun w' => w'.cell? ⟨w.heap.size, 0, none⟩ = some (.slice ao0_0 xs0.par.length cap0_0) ∧ w'.cell? ⟨w11.heap.size, 0, none⟩ = some (.slice a11_0 xs0.par.length cp11_0))
    (first | exact ⟨Ext.cell u21 (Ext.cell u20 cx18_0), Ext.cell u21 (Ext.cell u20 cx19_0)⟩ | exact ⟨Ext.cell u20 cx18_0, Ext.cell u20 cx19_0⟩ | go_keep)
    ((first
      | (go_at_call 10; refine (toGeo_c _ xs0 _ (HA20.out.ext (Ext.refl _).drew) S0.out).mono ?_; rintro e w20 ⟨x20, rfl, o20, u20⟩)
      | (go_at_call 15; refine (eqGeo_t _ _ xs0 _ ((HX20.out.ext (Ext.refl _).drew).ext u20) o20.read).mono ?_; rintro e w21 ⟨rfl, u21⟩)))
  have e21 := ((Ext.refl w17).drew.trans u20).trans u21
  clear o20
  have v21 := v17.trans e21
  have SZ21 := Lib.hid e21.size
  go_wp2_with fail
  refine (toVariableS_c _ xs1 _ (H1.out.ext v21) S1.out.1).mono ?_
  rintro e w22 ⟨x22, rfl, o22, u22⟩
  have v22 := v21.trans u22
  have SZ22 := Lib.hid u22.size
  have O22 := Lib.hid o22
  clear o22
  have RS_22 := Lib.hid u22.size
  go_wp2_with fail
  refine (eqVariableS_t _ _ xs1 _ (((((O13.out.ext u14).ext u16).ext u17).ext e21).ext u22).read O22.out.read).mono ?_
  rintro e w23 ⟨rfl, u23⟩
  have v23 := v22.trans u23
  have SZ23 := Lib.hid u23.size
  go_wp2_with fail
  refine (toTableS_c _ xs2 _ (H2.out.ext v23) S2.out).mono ?_
  rintro e w24 ⟨x24, r24, rfl, o24, u24⟩
  have v24 := v23.trans u24
  have SZ24 := Lib.hid u24.size
  have O24 := Lib.hid o24
  clear o24
  have RS_24 := Lib.hid u24.size
  go_wp2_with fail
  refine (eqTableS_t _ _ xs2 _ ((((((O14.out.ext u16).ext u17).ext e21).ext u22).ext u23).ext u24).read O24.out.read).mono ?_
  rintro e w25 ⟨rfl, u25⟩
  have v25 := v24.trans u25
  have SZ25 := Lib.hid u25.size
  have bx26 := (((((((((bo11.ext u13).ext u14).ext u16).ext u17).ext e21).ext u22).ext u23).ext u24).ext u25)
  have cx26_0 := bx26.cell 0 (by simp)
  go_wp2_with fail
  refine (markGeo_c _ _ _ xs0 1 _ ((((((((((O11.out.ext u12).ext u13).ext u14).ext u16).ext u17).ext e21).ext u22).ext u23).ext u24).ext u25) S0.out (by omega)).mono ?_
  rw [HK0.out]
  rintro e w27 ⟨rfl, ⟨ys27, o27, mk27⟩, u27⟩
  have OM27 := Lib.hid o27; clear o27
  have MK27 := Lib.hid mk27; clear mk27
  have U27 := Lib.hid u27; clear u27
  have RG27 := Lib.hid (rgOf U27.out)
  have v27 := v25.of_upd U27.out (fun b hb => by have := RG27.out b hb; have := SZ0_0.out; have := SZ2.out; have := SZ3.out; have := SZ4.out; have := SZ6.out; have := SZ7.out; have := SZ8.out; have := SZ9.out; have := SZ11.out; have := SZ12.out; have := SA12.out; have := SZ13.out; have := SZ14.out; have := SZ16.out; have := SZ17.out; have := SZ21.out; have := SZ22.out; have := SZ23.out; have := SZ24.out; have := SZ25.out; omega)
  have SZ27 := Lib.hid U27.out.size
  go_wp2_with fail
  refine (markVariableS_c _ _ _ _ xs1 k0 _ (((((((((O13.out.ext u14).ext u16).ext u17).ext e21).ext u22).ext u23).ext u24).ext u25).away U27.out (fun b hb => by have := RG27.out b hb; have := RS_11.out; have := RS_13.out; have := SZ0_0.out; have := SZ2.out; have := SZ3.out; have := SZ4.out; have := SZ6.out; have := SZ7.out; have := SZ8.out; have := SZ9.out; have := SZ11.out; have := SZ12.out; have := SA12.out; have := SZ13.out; have := SZ14.out; have := SZ16.out; have := SZ17.out; have := SZ21.out; have := SZ22.out; have := SZ23.out; have := SZ24.out; have := SZ25.out; have := SZ27.out; omega)) S1.out.1 (by omega)).mono ?_
  rw [HK1.out]
  rintro e w28 ⟨rfl, u28⟩
  have U28 := Lib.hid u28; clear u28
  have RG28 : Hid (∀ b, VB x13 xs1 b → _ ∧ b < _) := Lib.hid (fun b hb => by have := O13.out.range hb.1; rw [hb.2]; exact ⟨this.1, this.2.1⟩)
  have v28 := v27.of_upd U28.out (fun b hb => by have := RG28.out b hb; have := SZ0_0.out; have := SZ2.out; have := SZ3.out; have := SZ4.out; have := SZ6.out; have := SZ7.out; have := SZ8.out; have := SZ9.out; have := SZ11.out; have := SZ12.out; have := SA12.out; have := SZ13.out; have := SZ14.out; have := SZ16.out; have := SZ17.out; have := SZ21.out; have := SZ22.out; have := SZ23.out; have := SZ24.out; have := SZ25.out; have := SZ27.out; omega)
  have SZ28 := Lib.hid U28.out.size
  go_wp2_with fail
  refine (markTableS_c _ _ _ (by decide) _ _ xs2 k1 _ (((((((((O14.out.ext u16).ext u17).ext e21).ext u22).ext u23).ext u24).ext u25).away U27.out (fun b hb => by have := RG27.out b hb; have := RS_11.out; have := RS_14.out; have := SZ0_0.out; have := SZ2.out; have := SZ3.out; have := SZ4.out; have := SZ6.out; have := SZ7.out; have := SZ8.out; have := SZ9.out; have := SZ11.out; have := SZ12.out; have := SA12.out; have := SZ13.out; have := SZ14.out; have := SZ16.out; have := SZ17.out; have := SZ21.out; have := SZ22.out; have := SZ23.out; have := SZ24.out; have := SZ25.out; have := SZ27.out; have := SZ28.out; omega)).away U28.out (fun b hb => by have := RG28.out b hb; have := RS_13.out; have := RS_14.out; have := SZ0_0.out; have := SZ2.out; have := SZ3.out; have := SZ4.out; have := SZ6.out; have := SZ7.out; have := SZ8.out; have := SZ9.out; have := SZ11.out; have := SZ12.out; have := SA12.out; have := SZ13.out; have := SZ14.out; have := SZ16.out; have := SZ17.out; have := SZ21.out; have := SZ22.out; have := SZ23.out; have := SZ24.out; have := SZ25.out; have := SZ27.out; have := SZ28.out; omega)) S2.out (by omega)).mono ?_
  rw [HK2.out]
  rintro e w29 ⟨rfl, u29⟩
  have U29 := Lib.hid u29; clear u29
  have RG29 : Hid (∀ b, TB x14 r14 xs2 b → _ ∧ b < _) := Lib.hid (fun b hb => by have := O14.out.inside hb; exact ⟨this.1, this.2.1⟩)
  have v29 := v28.of_upd U29.out (fun b hb => by have := RG29.out b hb; have := SZ0_0.out; have := SZ2.out; have := SZ3.out; have := SZ4.out; have := SZ6.out; have := SZ7.out; have := SZ8.out; have := SZ9.out; have := SZ11.out; have := SZ12.out; have := SA12.out; have := SZ13.out; have := SZ14.out; have := SZ16.out; have := SZ17.out; have := SZ21.out; have := SZ22.out; have := SZ23.out; have := SZ24.out; have := SZ25.out; have := SZ27.out; have := SZ28.out; omega)
  have SZ29 := Lib.hid U29.out.size
  go_wp2_with fail
  refine (eqIntS_b true _ _ V0 V0 _ (by simp) (((((((((O16.out.ext u17).ext e21).ext u22).ext u23).ext u24).ext u25).away U27.out (fun b hb => by have := RG27.out b hb; have := RS_11.out; have := RS_16.out; have := SZ0_0.out; have := SZ2.out; have := SZ3.out; have := SZ4.out; have := SZ6.out; have := SZ7.out; have := SZ8.out; have := SZ9.out; have := SZ11.out; have := SZ12.out; have := SA12.out; have := SZ13.out; have := SZ14.out; have := SZ16.out; have := SZ17.out; have := SZ21.out; have := SZ22.out; have := SZ23.out; have := SZ24.out; have := SZ25.out; have := SZ27.out; have := SZ28.out; have := SZ29.out; omega)).away U28.out (fun b hb => by have := RG28.out b hb; have := RS_13.out; have := RS_16.out; have := SZ0_0.out; have := SZ2.out; have := SZ3.out; have := SZ4.out; have := SZ6.out; have := SZ7.out; have := SZ8.out; have := SZ9.out; have := SZ11.out; have := SZ12.out; have := SA12.out; have := SZ13.out; have := SZ14.out; have := SZ16.out; have := SZ17.out; have := SZ21.out; have := SZ22.out; have := SZ23.out; have := SZ24.out; have := SZ25.out; have := SZ27.out; have := SZ28.out; have := SZ29.out; omega)).away U29.out (fun b hb => by have := RG29.out b hb; have := RS_14.out; have := RS_16.out; have := SZ0_0.out; have := SZ2.out; have := SZ3.out; have := SZ4.out; have := SZ6.out; have := SZ7.out; have := SZ8.out; have := SZ9.out; have := SZ11.out; have := SZ12.out; have := SA12.out; have := SZ13.out; have := SZ14.out; have := SZ16.out; have := SZ17.out; have := SZ21.out; have := SZ22.out; have := SZ23.out; have := SZ24.out; have := SZ25.out; have := SZ27.out; have := SZ28.out; have := SZ29.out; omega)).ints ((((((((((((((O9.out.ext u11).ext u12).ext u13).ext u14).ext u16).ext u17).ext e21).ext u22).ext u23).ext u24).ext u25).away U27.out (fun b hb => by have := RG27.out b hb; have := RS_11.out; have := RS_9.out; have := SZ0_0.out; have := SZ2.out; have := SZ3.out; have := SZ4.out; have := SZ6.out; have := SZ7.out; have := SZ8.out; have := SZ9.out; have := SZ11.out; have := SZ12.out; have := SA12.out; have := SZ13.out; have := SZ14.out; have := SZ16.out; have := SZ17.out; have := SZ21.out; have := SZ22.out; have := SZ23.out; have := SZ24.out; have := SZ25.out; have := SZ27.out; have := SZ28.out; have := SZ29.out; omega)).away U28.out (fun b hb => by have := RG28.out b hb; have := RS_13.out; have := RS_9.out; have := SZ0_0.out; have := SZ2.out; have := SZ3.out; have := SZ4.out; have := SZ6.out; have := SZ7.out; have := SZ8.out; have := SZ9.out; have := SZ11.out; have := SZ12.out; have := SA12.out; have := SZ13.out; have := SZ14.out; have := SZ16.out; have := SZ17.out; have := SZ21.out; have := SZ22.out; have := SZ23.out; have := SZ24.out; have := SZ25.out; have := SZ27.out; have := SZ28.out; have := SZ29.out; omega)).away U29.out (fun b hb => by have := RG29.out b hb; have := RS_14.out; have := RS_9.out; have := SZ0_0.out; have := SZ2.out; have := SZ3.out; have := SZ4.out; have := SZ6.out; have := SZ7.out; have := SZ8.out; have := SZ9.out; have := SZ11.out; have := SZ12.out; have := SA12.out; have := SZ13.out; have := SZ14.out; have := SZ16.out; have := SZ17.out; have := SZ21.out; have := SZ22.out; have := SZ23.out; have := SZ24.out; have := SZ25.out; have := SZ27.out; have := SZ28.out; have := SZ29.out; omega)).ints).mono ?_
  rintro e w30 ⟨rfl, d30⟩
  have u30 := Drew.ext d30
  have v30 := v29.trans u30
  have SZ30 := Lib.hid u30.size
  go_wp2_with fail
  refine (markIntS_c _ _ _ V0 1 _ ((((((((((O16.out.ext u17).ext e21).ext u22).ext u23).ext u24).ext u25).away U27.out (fun b hb => by have := RG27.out b hb; have := RS_11.out; have := RS_16.out; have := SZ0_0.out; have := SZ2.out; have := SZ3.out; have := SZ4.out; have := SZ6.out; have := SZ7.out; have := SZ8.out; have := SZ9.out; have := SZ11.out; have := SZ12.out; have := SA12.out; have := SZ13.out; have := SZ14.out; have := SZ16.out; have := SZ17.out; have := SZ21.out; have := SZ22.out; have := SZ23.out; have := SZ24.out; have := SZ25.out; have := SZ27.out; have := SZ28.out; have := SZ29.out; have := SZ30.out; omega)).away U28.out (fun b hb => by have := RG28.out b hb; have := RS_13.out; have := RS_16.out; have := SZ0_0.out; have := SZ2.out; have := SZ3.out; have := SZ4.out; have := SZ6.out; have := SZ7.out; have := SZ8.out; have := SZ9.out; have := SZ11.out; have := SZ12.out; have := SA12.out; have := SZ13.out; have := SZ14.out; have := SZ16.out; have := SZ17.out; have := SZ21.out; have := SZ22.out; have := SZ23.out; have := SZ24.out; have := SZ25.out; have := SZ27.out; have := SZ28.out; have := SZ29.out; have := SZ30.out; omega)).away U29.out (fun b hb => by have := RG29.out b hb; have := RS_14.out; have := RS_16.out; have := SZ0_0.out; have := SZ2.out; have := SZ3.out; have := SZ4.out; have := SZ6.out; have := SZ7.out; have := SZ8.out; have := SZ9.out; have := SZ11.out; have := SZ12.out; have := SA12.out; have := SZ13.out; have := SZ14.out; have := SZ16.out; have := SZ17.out; have := SZ21.out; have := SZ22.out; have := SZ23.out; have := SZ24.out; have := SZ25.out; have := SZ27.out; have := SZ28.out; have := SZ29.out; have := SZ30.out; omega)).ext u30) RS0.out (by omega)).mono ?_
  rw [HM0.out]
  rintro e w31 ⟨rfl, o31, u31⟩
  have OM31 := Lib.hid o31; clear o31
  have U31 := Lib.hid u31; clear u31
  have RG31 : Hid (∀ b, (V0 ≠ [] ∧ b = blk x16) → _ ∧ b < _) := Lib.hid (fun b hb => by have := O16.out.range hb.1; rw [hb.2]; exact ⟨this.1, this.2.1⟩)
  have v31 := v30.of_upd U31.out (fun b hb => by have := RG31.out b hb; have := SZ0_0.out; have := SZ2.out; have := SZ3.out; have := SZ4.out; have := SZ6.out; have := SZ7.out; have := SZ8.out; have := SZ9.out; have := SZ11.out; have := SZ12.out; have := SA12.out; have := SZ13.out; have := SZ14.out; have := SZ16.out; have := SZ17.out; have := SZ21.out; have := SZ22.out; have := SZ23.out; have := SZ24.out; have := SZ25.out; have := SZ27.out; have := SZ28.out; have := SZ29.out; have := SZ30.out; omega)
  have SZ31 := Lib.hid U31.out.size
  go_wp2_with fail
  refine (heldIntS_c _ V0.length 1 _ OM31.out.ints RS0.out (by omega)).mono ?_
  rw [HM0.out]
  rintro e w31 ⟨rfl, rfl⟩
  have bx33 := (((((((((((((((((((((((ba0.ext u2).ext u3).ext u4).ext u6).ext u7).ext u8).ext u9).ext u11).ext u12).ext u13).ext u14).ext u16).ext u17).ext e21).ext u22).ext u23).ext u24).ext u25).upd U27.out (fun hb => by have := RG27.out _ hb; have := RS_11.out; have := SZ0_0.out; have := SZ2.out; have := SZ3.out; have := SZ4.out; have := SZ6.out; have := SZ7.out; have := SZ8.out; have := SZ9.out; have := SZ11.out; have := SZ12.out; have := SA12.out; have := SZ13.out; have := SZ14.out; have := SZ16.out; have := SZ17.out; have := SZ21.out; have := SZ22.out; have := SZ23.out; have := SZ24.out; have := SZ25.out; have := SZ27.out; have := SZ28.out; have := SZ29.out; have := SZ30.out; have := SZ31.out; omega)).upd U28.out (fun hb => by have := RG28.out _ hb; have := RS_13.out; have := SZ0_0.out; have := SZ2.out; have := SZ3.out; have := SZ4.out; have := SZ6.out; have := SZ7.out; have := SZ8.out; have := SZ9.out; have := SZ11.out; have := SZ12.out; have := SA12.out; have := SZ13.out; have := SZ14.out; have := SZ16.out; have := SZ17.out; have := SZ21.out; have := SZ22.out; have := SZ23.out; have := SZ24.out; have := SZ25.out; have := SZ27.out; have := SZ28.out; have := SZ29.out; have := SZ30.out; have := SZ31.out; omega)).upd U29.out (fun hb => by have := RG29.out _ hb; have := RS_14.out; have := SZ0_0.out; have := SZ2.out; have := SZ3.out; have := SZ4.out; have := SZ6.out; have := SZ7.out; have := SZ8.out; have := SZ9.out; have := SZ11.out; have := SZ12.out; have := SA12.out; have := SZ13.out; have := SZ14.out; have := SZ16.out; have := SZ17.out; have := SZ21.out; have := SZ22.out; have := SZ23.out; have := SZ24.out; have := SZ25.out; have := SZ27.out; have := SZ28.out; have := SZ29.out; have := SZ30.out; have := SZ31.out; omega)).ext u30).upd U31.out (fun hb => by have := RG31.out _ hb; have := RS_16.out; have := SZ0_0.out; have := SZ2.out; have := SZ3.out; have := SZ4.out; have := SZ6.out; have := SZ7.out; have := SZ8.out; have := SZ9.out; have := SZ11.out; have := SZ12.out; have := SA12.out; have := SZ13.out; have := SZ14.out; have := SZ16.out; have := SZ17.out; have := SZ21.out; have := SZ22.out; have := SZ23.out; have := SZ24.out; have := SZ25.out; have := SZ27.out; have := SZ28.out; have := SZ29.out; have := SZ30.out; have := SZ31.out; omega))
  have cx33_0 := bx33.cell 0 (by simp)
  go_wp2_with fail
  refine (toGeo_c _ xs0 _ (H0.out.ext v31) S0.out).mono ?_
  rintro e w34 ⟨x34, rfl, o34, u34⟩
  have v34 := v31.trans u34
  have SZ34 := Lib.hid u34.size
  have O34 := Lib.hid o34
  clear o34
  have RS_34 := Lib.hid u34.size
  go_wp2_with fail
  refine (toVariableS_c _ xs1 _ (H1.out.ext v34) S1.out.1).mono ?_
  rintro e w35 ⟨x35, rfl, o35, u35⟩
  have v35 := v34.trans u35
  have SZ35 := Lib.hid u35.size
  have O35 := Lib.hid o35
  clear o35
  have RS_35 := Lib.hid u35.size
  go_wp2_with fail
  refine (toTableS_c _ xs2 _ (H2.out.ext v35) S2.out).mono ?_
  rintro e w36 ⟨x36, r36, rfl, o36, u36⟩
  have v36 := v35.trans u36
  have SZ36 := Lib.hid u36.size
  have O36 := Lib.hid o36
  clear o36
  have RS_36 := Lib.hid u36.size
  go_wp2_with fail
  refine (implChain_c _ xs0 _ xs1 _ xs2 _ ((O34.out.ext u35).ext u36).read (O35.out.ext u36).read O36.out.read F1.out ).mono ?_
  rw [HV0.out]
  rw [HV1.out]
  rintro e w37 ⟨x37, rfl, o37, u37⟩
  have v37 := v36.trans u37
  have SZ37 := Lib.hid u37.size
  have O37 := Lib.hid o37
  clear o37
  have RS_37 := Lib.hid u37.size
  go_wp2_with fail
  refine (eqIntS_b true _ _ V0 V0 _ (by simp) O37.out.ints ((((((((((((((((((((O9.out.ext u11).ext u12).ext u13).ext u14).ext u16).ext u17).ext e21).ext u22).ext u23).ext u24).ext u25).away U27.out (fun b hb => by have := RG27.out b hb; have := RS_11.out; have := RS_9.out; have := SZ0_0.out; have := SZ2.out; have := SZ3.out; have := SZ4.out; have := SZ6.out; have := SZ7.out; have := SZ8.out; have := SZ9.out; have := SZ11.out; have := SZ12.out; have := SA12.out; have := SZ13.out; have := SZ14.out; have := SZ16.out; have := SZ17.out; have := SZ21.out; have := SZ22.out; have := SZ23.out; have := SZ24.out; have := SZ25.out; have := SZ27.out; have := SZ28.out; have := SZ29.out; have := SZ30.out; have := SZ31.out; have := SZ34.out; have := SZ35.out; have := SZ36.out; have := SZ37.out; omega)).away U28.out (fun b hb => by have := RG28.out b hb; have := RS_13.out; have := RS_9.out; have := SZ0_0.out; have := SZ2.out; have := SZ3.out; have := SZ4.out; have := SZ6.out; have := SZ7.out; have := SZ8.out; have := SZ9.out; have := SZ11.out; have := SZ12.out; have := SA12.out; have := SZ13.out; have := SZ14.out; have := SZ16.out; have := SZ17.out; have := SZ21.out; have := SZ22.out; have := SZ23.out; have := SZ24.out; have := SZ25.out; have := SZ27.out; have := SZ28.out; have := SZ29.out; have := SZ30.out; have := SZ31.out; have := SZ34.out; have := SZ35.out; have := SZ36.out; have := SZ37.out; omega)).away U29.out (fun b hb => by have := RG29.out b hb; have := RS_14.out; have := RS_9.out; have := SZ0_0.out; have := SZ2.out; have := SZ3.out; have := SZ4.out; have := SZ6.out; have := SZ7.out; have := SZ8.out; have := SZ9.out; have := SZ11.out; have := SZ12.out; have := SA12.out; have := SZ13.out; have := SZ14.out; have := SZ16.out; have := SZ17.out; have := SZ21.out; have := SZ22.out; have := SZ23.out; have := SZ24.out; have := SZ25.out; have := SZ27.out; have := SZ28.out; have := SZ29.out; have := SZ30.out; have := SZ31.out; have := SZ34.out; have := SZ35.out; have := SZ36.out; have := SZ37.out; omega)).ext u30).away U31.out (fun b hb => by have := RG31.out b hb; have := RS_16.out; have := RS_9.out; have := SZ0_0.out; have := SZ2.out; have := SZ3.out; have := SZ4.out; have := SZ6.out; have := SZ7.out; have := SZ8.out; have := SZ9.out; have := SZ11.out; have := SZ12.out; have := SA12.out; have := SZ13.out; have := SZ14.out; have := SZ16.out; have := SZ17.out; have := SZ21.out; have := SZ22.out; have := SZ23.out; have := SZ24.out; have := SZ25.out; have := SZ27.out; have := SZ28.out; have := SZ29.out; have := SZ30.out; have := SZ31.out; have := SZ34.out; have := SZ35.out; have := SZ36.out; have := SZ37.out; omega)).ext u34).ext u35).ext u36).ext u37).ints).mono ?_
  rintro e w38 ⟨rfl, d38⟩
  have u38 := Drew.ext d38
  have v38 := v37.trans u38
  have SZ38 := Lib.hid u38.size
  go_wp2_with fail
  refine (heldIntS_c _ V0.length 1 _ (((((OM31.out.ext u34).ext u35).ext u36).ext u37).ext u38).ints RS0.out (by omega)).mono ?_
  rw [HM0.out]
  rintro e w38 ⟨rfl, rfl⟩
  go_wp2
  go_ret
  exact ⟨rfl, v38⟩
end Go.Proofs.Ytolmmhdeebgglaa
