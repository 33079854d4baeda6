/- The law on FirstFlow. -/
import Derived.Test.YthdfiebacomilaaSfirst
import Derived.Test.YthdfiebacomilaaIfirst
import Derived.Test.YthdfiebacomilaaRgOf
import Derived.Deep.RegionHeld3
namespace Go.Proofs.Ythdfiebacomilaa
open Go.RowKit

theorem rc_small {n m : Nat} {X : List (List Int)} (h : Rc n m X) (hn : n ≤ 8) (hm : m ≤ 8) : Small X :=
  Small.of_rows8 (by rw [h.len]; exact hn) (fun k hk => by rw [h.row k (by rw [← h.len]; exact hk)]; exact hm)
theorem nil_small : Small [] := Small.of_rows8 (by simp) (fun k hk => by simp at hk)
theorem ffV_small (T : Tr) : Small (ffV T) := by
  unfold ffV
  split
  · rename_i h
    have ho := trB_true.1 h
    have h1 := ho.dims.2.1
    have h2 := ho.dims.2.2.2.1
    unfold firstV
    split
    · rename_i he
      exact rc_small he.choose_spec.rc h1 h2
    · exact nil_small
  · exact nil_small

set_option maxHeartbeats 3200000 in
theorem lawFirstFlow_c (v0 : Value) (xs0 : Tr) (w : World) (h0 : TrR w v0 xs0) (_ : TrWf xs0) :
    Calls Try.prog 8 #[v0] w fun e w' => e = .returned (.bool true) ∧ Ext w w' := by
  have H0 := Lib.hid h0
  obtain ⟨ao0_0, cap0_0, ao0_1, cap0_1, ao0_2, cap0_2, ao0_3, cap0_3, rfl, _, _, _, _⟩ := h0.form; clear h0
  have ba0 := Box.new w 25 #[.slice ao0_0 xs0.rows.length cap0_0, .slice ao0_1 xs0.cols.length cap0_1, .slice ao0_2 xs0.lo.length cap0_2, .slice ao0_3 xs0.hi.length cap0_3] rfl
  have SZ0_0 : Hid ((w.alloc (.cells #[.slice ao0_0 xs0.rows.length cap0_0, .slice ao0_1 xs0.cols.length cap0_1, .slice ao0_2 xs0.lo.length cap0_2, .slice ao0_3 xs0.hi.length cap0_3] 25)).heap.size = w.heap.size + 1) := Lib.hid (by simp)
  have v0 := ((Ext.refl w).alloc (.cells #[.slice ao0_0 xs0.rows.length cap0_0, .slice ao0_1 xs0.cols.length cap0_1, .slice ao0_2 xs0.lo.length cap0_2, .slice ao0_3 xs0.hi.length cap0_3] 25))
  obtain ⟨V0, hV0⟩ : ∃ V, ffV xs0 = V := ⟨_, rfl⟩
  have HV0 := Lib.hid hV0; clear hV0
  obtain ⟨V1, hV1⟩ : ∃ V, ffB xs0 = V := ⟨_, rfl⟩
  have HV1 := Lib.hid hV1; clear hV1
  have qv1 : (V1 != V1) = false := by simp
  go_enter Try.func8, Try.ntmps8
  have bx1 := ba0
  have cx1_0 := bx1.cell 0 (by simp)
  have cx1_1 := bx1.cell 1 (by simp)
  have cx1_2 := bx1.cell 2 (by simp)
  have cx1_3 := bx1.cell 3 (by simp)
  go_wp2_with fail
  refine (szTransport_c _ xs0 1048576 _ (H0.out.ext v0) (by omega)).mono ?_
  rintro e w2 ⟨t0, rfl, hr0, u2⟩
  have v2 := v0.trans u2
  have SZ2 := Lib.hid u2.size
  rcases hr0 with hr0 | ⟨hr0, hq0, hs0⟩
  · go_wp2
    go_ret
    exact ⟨rfl, v2⟩
  have hz0 : ¬ (t0 < 0) := by omega
  have tr0 : 0 ≤ t0 ∧ t0 ≤ 1048576 := by omega
  have S0 := Lib.hid hs0; clear hs0 hr0 hq0
  obtain ⟨k0, hk0⟩ : ∃ k, 1 + TrSize xs0 = k := ⟨_, rfl⟩
  have kb0 : 1 ≤ k0 ∧ k0 ≤ 4194305 := by have h1 := S0.out.size; omega
  have HK0 := Lib.hid hk0; clear hk0
  have kn : ¬ (k0 < 0) := by omega
  have kd : decide (k0 < 0) = false := by simp; omega
  have RS0 := Lib.hid (show Small V0 by rw [← HV0.out]; exact ffV_small _)
  obtain ⟨m0, hm0⟩ : ∃ m, 1 + (psum V0 V0.length : Int) = m := ⟨_, rfl⟩
  have mb0 : 1 ≤ m0 ∧ m0 ≤ 1048577 := by have h1 := RS0.out.psum V0.length (Nat.le_refl _); omega
  have HM0 := Lib.hid hm0; clear hm0
  have mn0 : ¬ (m0 < 0) := by omega
  have md0 : decide (m0 < 0) = false := by simp; omega
  have mq : (m0 != m0) = false := by simp
  have bx3 := (ba0.ext u2)
  have cx3_0 := bx3.cell 0 (by simp)
  have cx3_1 := bx3.cell 1 (by simp)
  have cx3_2 := bx3.cell 2 (by simp)
  have cx3_3 := bx3.cell 3 (by simp)
  go_wp2_with fail
  refine (toTransport_c _ xs0 _ (H0.out.ext v2) S0.out).mono ?_
  rintro e w4 ⟨x4, rfl, o4, u4⟩
  have v4 := v2.trans u4
  have SZ4 := Lib.hid u4.size
  have O4 := Lib.hid o4
  clear o4
  have RS_4 := Lib.hid u4.size
  go_wp2_with fail
  refine (specFirst_c _ xs0 _ O4.out.read ).mono ?_
  rw [HV0.out]
  rw [HV1.out]
  rintro e w5 ⟨x5, r5, rfl, o5, u5⟩
  have v5 := v4.trans u5
  have SZ5 := Lib.hid u5.size
  have O5 := Lib.hid o5
  clear o5
  have RS_5 := Lib.hid u5.size
  have bx6 := (((ba0.ext u2).ext u4).ext u5)
  have cx6_0 := bx6.cell 0 (by simp)
  have cx6_1 := bx6.cell 1 (by simp)
  have cx6_2 := bx6.cell 2 (by simp)
  have cx6_3 := bx6.cell 3 (by simp)
  go_wp2_with fail
  refine (toTransport_c _ xs0 _ (H0.out.ext v5) S0.out).mono ?_
  rintro e w7 ⟨x7, rfl, o7, u7⟩
  have v7 := v5.trans u7
  have SZ7 := Lib.hid u7.size
  have O7 := Lib.hid o7
  clear o7
  have RS_7 := Lib.hid u7.size
  obtain ⟨a7_0, cp7_0, a7_1, cp7_1, a7_2, cp7_2, a7_3, cp7_3, hxx7, _, _, _, _⟩ := O7.out.read.form
  subst hxx7
  have bo7 := Box.new w7 29 #[.slice a7_0 xs0.rows.length cp7_0, .slice a7_1 xs0.cols.length cp7_1, .slice a7_2 xs0.lo.length cp7_2, .slice a7_3 xs0.hi.length cp7_3] rfl
  have u8 := (Ext.refl w7).alloc (.cells #[.slice a7_0 xs0.rows.length cp7_0, .slice a7_1 xs0.cols.length cp7_1, .slice a7_2 xs0.lo.length cp7_2, .slice a7_3 xs0.hi.length cp7_3] 29)
  have v8 := v7.trans u8
  have SZ8 := Lib.hid u8.size
  have SA8 : Hid ((w7.alloc (.cells #[.slice a7_0 xs0.rows.length cp7_0, .slice a7_1 xs0.cols.length cp7_1, .slice a7_2 xs0.lo.length cp7_2, .slice a7_3 xs0.hi.length cp7_3] 29)).heap.size = w7.heap.size + 1) := Lib.hid (by simp)
  have bx9 := bo7
  have cx9_0 := bx9.cell 0 (by simp)
  have cx9_1 := bx9.cell 1 (by simp)
  have cx9_2 := bx9.cell 2 (by simp)
  have cx9_3 := bx9.cell 3 (by simp)
  go_wp2_with fail
  refine (implFirst_c _ xs0 _ (O7.out.ext u8).read ).mono ?_
  rw [HV0.out]
  rw [HV1.out]
  rintro e w10 ⟨x10, r10, rfl, o10, u10⟩
  have v10 := v8.trans u10
  have SZ10 := Lib.hid u10.size
  have O10 := Lib.hid o10
  clear o10
  have RS_10 := Lib.hid u10.size
  go_wp2_with fail
  refine (eqIntSS_b true _ _ V0 V0 _ (by simp) O10.out.grid (((O5.out.ext u7).ext u8).ext u10).grid).mono ?_
  rintro e w11 ⟨rfl, d11⟩
  have u11 := Drew.ext d11
  have v11 := v10.trans u11
  have SZ11 := Lib.hid u11.size
  have bx12 := (((((((ba0.ext u2).ext u4).ext u5).ext u7).ext u8).ext u10).ext u11)
  have cx12_0 := bx12.cell 0 (by simp)
  have cx12_1 := bx12.cell 1 (by simp)
  have cx12_2 := bx12.cell 2 (by simp)
  have cx12_3 := bx12.cell 3 (by simp)
  have bx13 := ((bo7.ext u10).ext u11)
  have cx13_0 := bx13.cell 0 (by simp)
  have cx13_1 := bx13.cell 1 (by simp)
  have cx13_2 := bx13.cell 2 (by simp)
  have cx13_3 := bx13.cell 3 (by simp)
  have HA14 := Lib.hid ((H0.out.ext v11))
  have HX14 := Lib.hid ((((O7.out.ext u8).ext u10).ext u11).read)
  go_wp2_with fail
  go_region_held3 (fun w' => w'.cell? ⟨w.heap.size, 0, none⟩ = some (.slice ao0_0 xs0.rows.length cap0_0) ∧ w'.cell? ⟨w.heap.size, 1, none⟩ = some (.slice ao0_1 xs0.cols.length cap0_1) ∧ w'.cell? ⟨w.heap.size, 2, none⟩ = some (.slice ao0_2 xs0.lo.length cap0_2) ∧ w'.cell? ⟨w.heap.size, 3, none⟩ = some (.slice ao0_3 xs0.hi.length cap0_3) ∧ w'.cell? ⟨w7.heap.size, 0, none⟩ = some (.slice a7_0 xs0.rows.length cp7_0) ∧ w'.cell? ⟨w7.heap.size, 1, none⟩ = some (.slice a7_1 xs0.cols.length cp7_1) ∧ w'.cell? ⟨w7.heap.size, 2, none⟩ = some (.slice a7_2 xs0.lo.length cp7_2) ∧ w'.cell? ⟨w7.heap.size, 3, none⟩ = some (.slice a7_3 xs0.hi.length cp7_3))
    (first | exact ⟨Ext.cell u15 (Ext.cell u14 cx12_0), Ext.cell u15 (Ext.cell u14 cx12_1), Ext.cell u15 (Ext.cell u14 cx12_2), Ext.cell u15 (Ext.cell u14 cx12_3), Ext.cell u15 (Ext.cell u14 cx13_0), Ext.cell u15 (Ext.cell u14 cx13_1), Ext.cell u15 (Ext.cell u14 cx13_2), Ext.cell u15 (Ext.cell u14 cx13_3)⟩ | exact ⟨Ext.cell u14 cx12_0, Ext.cell u14 cx12_1, Ext.cell u14 cx12_2, Ext.cell u14 cx12_3, Ext.cell u14 cx13_0, Ext.cell u14 cx13_1, Ext.cell u14 cx13_2, Ext.cell u14 cx13_3⟩ | go_keep)
    ((first
      | (go_at_call 15; refine (toTransport_c _ xs0 _ (HA14.out.ext (Ext.refl _).drew) S0.out).mono ?_; rintro e w14 ⟨x14, rfl, o14, u14⟩)
      | (go_at_call 18; refine (eqTransport_t _ _ xs0 _ ((HX14.out.ext (Ext.refl _).drew).ext u14) o14.read).mono ?_; rintro e w15 ⟨rfl, u15⟩)))
  have e15 := ((Ext.refl w11).drew.trans u14).trans u15
  clear o14
  have v15 := v11.trans e15
  have SZ15 := Lib.hid e15.size
  have bx16 := (((bo7.ext u10).ext u11).ext e15)
  have cx16_0 := bx16.cell 0 (by simp)
  have cx16_1 := bx16.cell 1 (by simp)
  have cx16_2 := bx16.cell 2 (by simp)
  have cx16_3 := bx16.cell 3 (by simp)
  go_wp2_with fail
  refine (markTransport_c _ _ _ xs0 1 _ ((((O7.out.ext u8).ext u10).ext u11).ext e15) S0.out (by omega)).mono ?_
  rw [HK0.out]
  rintro e w17 ⟨rfl, ⟨ys17, o17, mk17⟩, u17⟩
  have OM17 := Lib.hid o17; clear o17
  have MK17 := Lib.hid mk17; clear mk17
  have U17 := Lib.hid u17; clear u17
  have RG17 := Lib.hid (rgOf U17.out)
  have v17 := v15.of_upd U17.out (fun b hb => by have := RG17.out b hb; have := SZ0_0.out; have := SZ2.out; have := SZ4.out; have := SZ5.out; have := SZ7.out; have := SZ8.out; have := SA8.out; have := SZ10.out; have := SZ11.out; have := SZ15.out; omega)
  have SZ17 := Lib.hid U17.out.size
  go_wp2_with fail
  refine (eqIntSS_b true _ _ V0 V0 _ (by simp) (((O10.out.ext u11).ext e15).away U17.out (fun b hb => by have := RG17.out b hb; have := RS_7.out; have := RS_10.out; have := SZ0_0.out; have := SZ2.out; have := SZ4.out; have := SZ5.out; have := SZ7.out; have := SZ8.out; have := SA8.out; have := SZ10.out; have := SZ11.out; have := SZ15.out; have := SZ17.out; omega)).grid ((((((O5.out.ext u7).ext u8).ext u10).ext u11).ext e15).away U17.out (fun b hb => by have := RG17.out b hb; have := RS_7.out; have := RS_5.out; have := SZ0_0.out; have := SZ2.out; have := SZ4.out; have := SZ5.out; have := SZ7.out; have := SZ8.out; have := SA8.out; have := SZ10.out; have := SZ11.out; have := SZ15.out; have := SZ17.out; omega)).grid).mono ?_
  rintro e w18 ⟨rfl, d18⟩
  have u18 := Drew.ext d18
  have v18 := v17.trans u18
  have SZ18 := Lib.hid u18.size
  go_wp2_with fail
  refine (markIntSS_c _ _ _ _ V0 1 _ ((((O10.out.ext u11).ext e15).away U17.out (fun b hb => by have := RG17.out b hb; have := RS_7.out; have := RS_10.out; have := SZ0_0.out; have := SZ2.out; have := SZ4.out; have := SZ5.out; have := SZ7.out; have := SZ8.out; have := SA8.out; have := SZ10.out; have := SZ11.out; have := SZ15.out; have := SZ17.out; have := SZ18.out; omega)).ext u18) RS0.out.row RS0.out.psum (by omega)).mono ?_
  rw [HM0.out]
  rintro e w19 ⟨rfl, ⟨ys19, o19, mk19⟩, u19⟩
  have OM19 := Lib.hid o19; clear o19
  have MK19 := Lib.hid mk19; clear mk19
  have U19 := Lib.hid u19; clear u19
  have RG19 : Hid (∀ b, rowBlks r10 V0 b → _ ∧ b < _) := Lib.hid (fun b hb => by have := O10.out.blks hb; exact ⟨this.1, this.2.1⟩)
  have v19 := v18.of_upd U19.out (fun b hb => by have := RG19.out b hb; have := SZ0_0.out; have := SZ2.out; have := SZ4.out; have := SZ5.out; have := SZ7.out; have := SZ8.out; have := SA8.out; have := SZ10.out; have := SZ11.out; have := SZ15.out; have := SZ17.out; have := SZ18.out; omega)
  have SZ19 := Lib.hid U19.out.size
  go_wp2_with fail
  refine (heldIntSS_c _ V0 _ 1 _ OM19.out.grid MK19.out RS0.out.row RS0.out.psum (by omega)).mono ?_
  rw [HM0.out]
  rintro e w19 ⟨rfl, rfl⟩
  have bx21 := (((((((((((ba0.ext u2).ext u4).ext u5).ext u7).ext u8).ext u10).ext u11).ext e15).upd U17.out (fun hb => by have := RG17.out _ hb; have := RS_7.out; have := SZ0_0.out; have := SZ2.out; have := SZ4.out; have := SZ5.out; have := SZ7.out; have := SZ8.out; have := SA8.out; have := SZ10.out; have := SZ11.out; have := SZ15.out; have := SZ17.out; have := SZ18.out; have := SZ19.out; omega)).ext u18).upd U19.out (fun hb => by have := RG19.out _ hb; have := RS_10.out; have := SZ0_0.out; have := SZ2.out; have := SZ4.out; have := SZ5.out; have := SZ7.out; have := SZ8.out; have := SA8.out; have := SZ10.out; have := SZ11.out; have := SZ15.out; have := SZ17.out; have := SZ18.out; have := SZ19.out; omega))
  have cx21_0 := bx21.cell 0 (by simp)
  have cx21_1 := bx21.cell 1 (by simp)
  have cx21_2 := bx21.cell 2 (by simp)
  have cx21_3 := bx21.cell 3 (by simp)
  go_wp2_with fail
  refine (toTransport_c _ xs0 _ (H0.out.ext v19) S0.out).mono ?_
  rintro e w22 ⟨x22, rfl, o22, u22⟩
  have v22 := v19.trans u22
  have SZ22 := Lib.hid u22.size
  have O22 := Lib.hid o22
  clear o22
  have RS_22 := Lib.hid u22.size
  go_wp2_with fail
  refine (implFirst_c _ xs0 _ O22.out.read ).mono ?_
  rw [HV0.out]
  rw [HV1.out]
  rintro e w23 ⟨x23, r23, rfl, o23, u23⟩
  have v23 := v22.trans u23
  have SZ23 := Lib.hid u23.size
  have O23 := Lib.hid o23
  clear o23
  have RS_23 := Lib.hid u23.size
  go_wp2_with fail
  refine (eqIntSS_b true _ _ V0 V0 _ (by simp) O23.out.grid ((((((((((O5.out.ext u7).ext u8).ext u10).ext u11).ext e15).away U17.out (fun b hb => by have := RG17.out b hb; have := RS_7.out; have := RS_5.out; have := SZ0_0.out; have := SZ2.out; have := SZ4.out; have := SZ5.out; have := SZ7.out; have := SZ8.out; have := SA8.out; have := SZ10.out; have := SZ11.out; have := SZ15.out; have := SZ17.out; have := SZ18.out; have := SZ19.out; have := SZ22.out; have := SZ23.out; omega)).ext u18).away U19.out (fun b hb => by have := RG19.out b hb; have := RS_10.out; have := RS_5.out; have := SZ0_0.out; have := SZ2.out; have := SZ4.out; have := SZ5.out; have := SZ7.out; have := SZ8.out; have := SA8.out; have := SZ10.out; have := SZ11.out; have := SZ15.out; have := SZ17.out; have := SZ18.out; have := SZ19.out; have := SZ22.out; have := SZ23.out; omega)).ext u22).ext u23).grid).mono ?_
  rintro e w24 ⟨rfl, d24⟩
  have u24 := Drew.ext d24
  have v24 := v23.trans u24
  have SZ24 := Lib.hid u24.size
  go_wp2_with fail
  refine (heldIntSS_c _ V0 _ 1 _ (((OM19.out.ext u22).ext u23).ext u24).grid MK19.out RS0.out.row RS0.out.psum (by omega)).mono ?_
  rw [HM0.out]
  rintro e w24 ⟨rfl, rfl⟩
  go_wp2
  go_ret
  exact ⟨rfl, v24⟩
end Go.Proofs.Ythdfiebacomilaa
