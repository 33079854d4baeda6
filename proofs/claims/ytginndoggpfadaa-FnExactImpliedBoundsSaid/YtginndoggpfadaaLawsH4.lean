/- The law on ImpliedBounds. -/
import Derived.Test.YtginndoggpfadaaSec3
import Derived.Test.YtginndoggpfadaaRgOf
import Derived.Deep.RegionHeld3
namespace Go.Proofs.Ytginndoggpfadaa
open Go.RowKit

theorem bnd_small {x p : List (List Int)} (h : pubB x p = true) (f : Nat → Nat → Int → Int) : Small (mapG f x) := by
  have rc := pub_rc h
  have d := atk_dims h
  apply Small.of_rows8 (by rw [mapG_length]; exact d.2.1)
  intro k hk
  rw [mapG_length] at hk
  rw [rowAt_mapG hk, rowF_length, rc.row k hk]; exact d.2.2.2
theorem bndV_small (x p : List (List Int)) : BdSmall (bndV x p) := by
  unfold bndV
  split
  · rename_i h; exact ⟨bnd_small h _, bnd_small h _⟩
  · exact ⟨Small.of_rows8 (by simp) (fun k hk => by simp at hk), Small.of_rows8 (by simp) (fun k hk => by simp at hk)⟩

set_option maxHeartbeats 3200000 in
theorem lawImpliedBounds_c (v0 : Value) (xs0 : List (List Int)) (v1 : Value) (xs1 : List (List Int)) (w : World) (h0 : Grid w v0 xs0) (h1 : Grid w v1 xs1) (_ : WfG xs0) (_ : WfG xs1) :
    Calls Try.prog 7 #[v0, v1] w fun e w' => e = .returned (.bool true) ∧ Ext w w' := by
  have H0 := Lib.hid h0; clear h0
  have H1 := Lib.hid h1; clear h1
  have v0 := (Ext.refl w)
  obtain ⟨V0, hV0⟩ : ∃ V, bndV xs0 xs1 = V := ⟨_, rfl⟩
  have HV0 := Lib.hid hV0; clear hV0
  obtain ⟨V1, hV1⟩ : ∃ V, pubB xs0 xs1 = V := ⟨_, rfl⟩
  have HV1 := Lib.hid hV1; clear hV1
  have qv1 : (V1 != V1) = false := by simp
  go_enter Try.func7, Try.ntmps7
  obtain ⟨t0, ht0⟩ : ∃ t, szG 1048576 xs0 = t := ⟨_, rfl⟩
  have T0 := Lib.hid ht0; clear ht0
  go_wp2_with fail
  refine (szIntSS_c _ xs0 1048576 _ (H0.out.ext v0) (by omega)).mono ?_
  rw [T0.out]
  rintro e w' ⟨rfl, rfl⟩
  by_cases hz0 : t0 < 0
  · go_wp2
    go_ret
    exact ⟨rfl, v0⟩
  have tr0 : 0 ≤ t0 ∧ t0 ≤ 1048576 := by have h1 := T0.out; have h2 := szG_range (left := 1048576) (xss := xs0) (by omega); omega
  have S0 := Lib.hid (Small.of_szG (left := 1048576) (xss := xs0) (by omega) (by have h1 := T0.out; omega))
  obtain ⟨t1, ht1⟩ : ∃ t, szG t0 xs1 = t := ⟨_, rfl⟩
  have T1 := Lib.hid ht1; clear ht1
  go_wp2_with fail
  refine (szIntSS_c _ xs1 t0 _ (H1.out.ext v0) (by omega)).mono ?_
  rw [T1.out]
  rintro e w' ⟨rfl, rfl⟩
  by_cases hz1 : t1 < 0
  · go_wp2
    go_ret
    exact ⟨rfl, v0⟩
  have tr1 : 0 ≤ t1 ∧ t1 ≤ 1048576 := by have h1 := T1.out; have h2 := szG_range (left := t0) (xss := xs1) (by omega); omega
  have S1 := Lib.hid (Small.of_szG (left := t0) (xss := xs1) (by omega) (by have h1 := T1.out; omega))
  obtain ⟨k0, hk0⟩ : ∃ k, 1 + (psum xs0 xs0.length : Int) = k := ⟨_, rfl⟩
  have kb0 : 1 ≤ k0 ∧ k0 ≤ 1048577 := by have h1 := S0.out.psum xs0.length (Nat.le_refl _); omega
  have HK0 := Lib.hid hk0; clear hk0
  obtain ⟨k1, hk1⟩ : ∃ k, k0 + (psum xs1 xs1.length : Int) = k := ⟨_, rfl⟩
  have kb1 : 1 ≤ k1 ∧ k1 ≤ 2097153 := by have h1 := S1.out.psum xs1.length (Nat.le_refl _); omega
  have HK1 := Lib.hid hk1; clear hk1
  have kn : ¬ (k1 < 0) := by omega
  have kd : decide (k1 < 0) = false := by simp; omega
  have RS0 := Lib.hid (show BdSmall V0 by rw [← HV0.out]; exact bndV_small _ _)
  obtain ⟨m0, hm0⟩ : ∃ m, 1 + BdSize V0 = m := ⟨_, rfl⟩
  have mb0 : 1 ≤ m0 ∧ m0 ≤ 4194305 := by have h1 := RS0.out.size; omega
  have HM0 := Lib.hid hm0; clear hm0
  have mn0 : ¬ (m0 < 0) := by omega
  have md0 : decide (m0 < 0) = false := by simp; omega
  have mq : (m0 != m0) = false := by simp
  go_wp2_with fail
  refine (toIntSS_c _ xs0 _ (H0.out.ext v0) S0.out.len S0.out.row).mono ?_
  rintro e w3 ⟨x3, r3, rfl, o3, u3⟩
  have v3 := v0.trans u3
  have SZ3 := Lib.hid u3.size
  have O3 := Lib.hid o3
  clear o3
  have RS_3 := Lib.hid u3.size
  go_wp2_with fail
  refine (toIntSS_c _ xs1 _ (H1.out.ext v3) S1.out.len S1.out.row).mono ?_
  rintro e w4 ⟨x4, r4, rfl, o4, u4⟩
  have v4 := v3.trans u4
  have SZ4 := Lib.hid u4.size
  have O4 := Lib.hid o4
  clear o4
  have RS_4 := Lib.hid u4.size
  go_wp2_with fail
  refine (specImp_c _ xs0 _ xs1 _ (O3.out.ext u4).grid O4.out.grid ).mono ?_
  rw [HV0.out]
  rw [HV1.out]
  rintro e w5 ⟨x5, rfl, o5, u5⟩
  have v5 := v4.trans u5
  have SZ5 := Lib.hid u5.size
  have O5 := Lib.hid o5
  clear o5
  have RS_5 := Lib.hid u5.size
  obtain ⟨a5_0, cp5_0, a5_1, cp5_1, hxx5, _, _⟩ := O5.out.read.form
  subst hxx5
  have bo5 := Box.new w5 37 #[.slice a5_0 V0.lo.length cp5_0, .slice a5_1 V0.hi.length cp5_1] rfl
  have u6 := (Ext.refl w5).alloc (.cells #[.slice a5_0 V0.lo.length cp5_0, .slice a5_1 V0.hi.length cp5_1] 37)
  have v6 := v5.trans u6
  have SZ6 := Lib.hid u6.size
  have SA6 : Hid ((w5.alloc (.cells #[.slice a5_0 V0.lo.length cp5_0, .slice a5_1 V0.hi.length cp5_1] 37)).heap.size = w5.heap.size + 1) := Lib.hid (by simp)
  go_wp2_with fail
  refine (toIntSS_c _ xs0 _ (H0.out.ext v6) S0.out.len S0.out.row).mono ?_
  rintro e w7 ⟨x7, r7, rfl, o7, u7⟩
  have v7 := v6.trans u7
  have SZ7 := Lib.hid u7.size
  have O7 := Lib.hid o7
  clear o7
  have RS_7 := Lib.hid u7.size
  go_wp2_with fail
  refine (toIntSS_c _ xs1 _ (H1.out.ext v7) S1.out.len S1.out.row).mono ?_
  rintro e w8 ⟨x8, r8, rfl, o8, u8⟩
  have v8 := v7.trans u8
  have SZ8 := Lib.hid u8.size
  have O8 := Lib.hid o8
  clear o8
  have RS_8 := Lib.hid u8.size
  go_wp2_with fail
  refine (implImp_c _ xs0 _ xs1 _ (O7.out.ext u8).grid O8.out.grid ).mono ?_
  rw [HV0.out]
  rw [HV1.out]
  rintro e w9 ⟨x9, rfl, o9, u9⟩
  have v9 := v8.trans u9
  have SZ9 := Lib.hid u9.size
  have O9 := Lib.hid o9
  clear o9
  have RS_9 := Lib.hid u9.size
  obtain ⟨a9_0, cp9_0, a9_1, cp9_1, hxx9, _, _⟩ := O9.out.read.form
  subst hxx9
  have bo9 := Box.new w9 37 #[.slice a9_0 V0.lo.length cp9_0, .slice a9_1 V0.hi.length cp9_1] rfl
  have u10 := (Ext.refl w9).alloc (.cells #[.slice a9_0 V0.lo.length cp9_0, .slice a9_1 V0.hi.length cp9_1] 37)
  have v10 := v9.trans u10
  have SZ10 := Lib.hid u10.size
  have SA10 : Hid ((w9.alloc (.cells #[.slice a9_0 V0.lo.length cp9_0, .slice a9_1 V0.hi.length cp9_1] 37)).heap.size = w9.heap.size + 1) := Lib.hid (by simp)
  have bx11 := bo9
  have cx11_0 := bx11.cell 0 (by simp)
  have cx11_1 := bx11.cell 1 (by simp)
  have bx12 := ((((bo5.ext u7).ext u8).ext u9).ext u10)
  have cx12_0 := bx12.cell 0 (by simp)
  have cx12_1 := bx12.cell 1 (by simp)
  go_wp2_with fail
  refine (eqBounds_t _ _ V0 _ (O9.out.ext u10).read (((((O5.out.ext u6).ext u7).ext u8).ext u9).ext u10).read).mono ?_
  rintro e w13 ⟨rfl, u13⟩
  have v13 := v10.trans u13
  have SZ13 := Lib.hid u13.size
  go_wp2_with fail
  refine (toIntSS_c _ xs0 _ (H0.out.ext v13) S0.out.len S0.out.row).mono ?_
  rintro e w14 ⟨x14, r14, rfl, o14, u14⟩
  have v14 := v13.trans u14
  have SZ14 := Lib.hid u14.size
  have O14 := Lib.hid o14
  clear o14
  have RS_14 := Lib.hid u14.size
  go_wp2_with fail
  refine (eqIntSS_b true _ _ xs0 xs0 _ (by simp) (((((O7.out.ext u8).ext u9).ext u10).ext u13).ext u14).grid O14.out.grid).mono ?_
  rintro e w15 ⟨rfl, d15⟩
  have u15 := Drew.ext d15
  have v15 := v14.trans u15
  have SZ15 := Lib.hid u15.size
  go_wp2_with fail
  refine (toIntSS_c _ xs1 _ (H1.out.ext v15) S1.out.len S1.out.row).mono ?_
  rintro e w16 ⟨x16, r16, rfl, o16, u16⟩
  have v16 := v15.trans u16
  have SZ16 := Lib.hid u16.size
  have O16 := Lib.hid o16
  clear o16
  have RS_16 := Lib.hid u16.size
  go_wp2_with fail
  refine (eqIntSS_b true _ _ xs1 xs1 _ (by simp) ((((((O8.out.ext u9).ext u10).ext u13).ext u14).ext u15).ext u16).grid O16.out.grid).mono ?_
  rintro e w17 ⟨rfl, d17⟩
  have u17 := Drew.ext d17
  have v17 := v16.trans u17
  have SZ17 := Lib.hid u17.size
  go_wp2_with fail
  refine (markIntSS_c _ _ _ _ xs0 1 _ ((((((((O7.out.ext u8).ext u9).ext u10).ext u13).ext u14).ext u15).ext u16).ext u17) S0.out.row S0.out.psum (by omega)).mono ?_
  rw [HK0.out]
  rintro e w18 ⟨rfl, ⟨ys18, o18, mk18⟩, u18⟩
  have OM18 := Lib.hid o18; clear o18
  have MK18 := Lib.hid mk18; clear mk18
  have U18 := Lib.hid u18; clear u18
  have RG18 : Hid (∀ b, rowBlks r7 xs0 b → _ ∧ b < _) := Lib.hid (fun b hb => by have := O7.out.blks hb; exact ⟨this.1, this.2.1⟩)
  have v18 := v17.of_upd U18.out (fun b hb => by have := RG18.out b hb; have := SZ3.out; have := SZ4.out; have := SZ5.out; have := SZ6.out; have := SA6.out; have := SZ7.out; have := SZ8.out; have := SZ9.out; have := SZ10.out; have := SA10.out; have := SZ13.out; have := SZ14.out; have := SZ15.out; have := SZ16.out; have := SZ17.out; omega)
  have SZ18 := Lib.hid U18.out.size
  go_wp2_with fail
  refine (markIntSS_c _ _ _ _ xs1 k0 _ ((((((((O8.out.ext u9).ext u10).ext u13).ext u14).ext u15).ext u16).ext u17).away U18.out (fun b hb => by have := RG18.out b hb; have := RS_7.out; have := RS_8.out; have := SZ3.out; have := SZ4.out; have := SZ5.out; have := SZ6.out; have := SA6.out; have := SZ7.out; have := SZ8.out; have := SZ9.out; have := SZ10.out; have := SA10.out; have := SZ13.out; have := SZ14.out; have := SZ15.out; have := SZ16.out; have := SZ17.out; have := SZ18.out; omega)) S1.out.row S1.out.psum (by omega)).mono ?_
  rw [HK1.out]
  rintro e w19 ⟨rfl, ⟨ys19, o19, mk19⟩, u19⟩
  have OM19 := Lib.hid o19; clear o19
  have MK19 := Lib.hid mk19; clear mk19
  have U19 := Lib.hid u19; clear u19
  have RG19 : Hid (∀ b, rowBlks r8 xs1 b → _ ∧ b < _) := Lib.hid (fun b hb => by have := O8.out.blks hb; exact ⟨this.1, this.2.1⟩)
  have v19 := v18.of_upd U19.out (fun b hb => by have := RG19.out b hb; have := SZ3.out; have := SZ4.out; have := SZ5.out; have := SZ6.out; have := SA6.out; have := SZ7.out; have := SZ8.out; have := SZ9.out; have := SZ10.out; have := SA10.out; have := SZ13.out; have := SZ14.out; have := SZ15.out; have := SZ16.out; have := SZ17.out; have := SZ18.out; omega)
  have SZ19 := Lib.hid U19.out.size
  have bx20 := (((((((bo9.ext u13).ext u14).ext u15).ext u16).ext u17).upd U18.out (fun hb => by have := RG18.out _ hb; have := RS_7.out; have := SZ3.out; have := SZ4.out; have := SZ5.out; have := SZ6.out; have := SA6.out; have := SZ7.out; have := SZ8.out; have := SZ9.out; have := SZ10.out; have := SA10.out; have := SZ13.out; have := SZ14.out; have := SZ15.out; have := SZ16.out; have := SZ17.out; have := SZ18.out; have := SZ19.out; omega)).upd U19.out (fun hb => by have := RG19.out _ hb; have := RS_8.out; have := SZ3.out; have := SZ4.out; have := SZ5.out; have := SZ6.out; have := SA6.out; have := SZ7.out; have := SZ8.out; have := SZ9.out; have := SZ10.out; have := SA10.out; have := SZ13.out; have := SZ14.out; have := SZ15.out; have := SZ16.out; have := SZ17.out; have := SZ18.out; have := SZ19.out; omega))
  have cx20_0 := bx20.cell 0 (by simp)
  have cx20_1 := bx20.cell 1 (by simp)
  have bx21 := (((((((((((bo5.ext u7).ext u8).ext u9).ext u10).ext u13).ext u14).ext u15).ext u16).ext u17).upd U18.out (fun hb => by have := RG18.out _ hb; have := RS_7.out; have := SZ3.out; have := SZ4.out; have := SZ5.out; have := SZ6.out; have := SA6.out; have := SZ7.out; have := SZ8.out; have := SZ9.out; have := SZ10.out; have := SA10.out; have := SZ13.out; have := SZ14.out; have := SZ15.out; have := SZ16.out; have := SZ17.out; have := SZ18.out; have := SZ19.out; omega)).upd U19.out (fun hb => by have := RG19.out _ hb; have := RS_8.out; have := SZ3.out; have := SZ4.out; have := SZ5.out; have := SZ6.out; have := SA6.out; have := SZ7.out; have := SZ8.out; have := SZ9.out; have := SZ10.out; have := SA10.out; have := SZ13.out; have := SZ14.out; have := SZ15.out; have := SZ16.out; have := SZ17.out; have := SZ18.out; have := SZ19.out; omega))
  have cx21_0 := bx21.cell 0 (by simp)
  have cx21_1 := bx21.cell 1 (by simp)
  go_wp2_with fail
  refine (eqBounds_t _ _ V0 _ ((((((((O9.out.ext u10).ext u13).ext u14).ext u15).ext u16).ext u17).away U18.out (fun b hb => by have := RG18.out b hb; have := RS_7.out; have := RS_9.out; have := SZ3.out; have := SZ4.out; have := SZ5.out; have := SZ6.out; have := SA6.out; have := SZ7.out; have := SZ8.out; have := SZ9.out; have := SZ10.out; have := SA10.out; have := SZ13.out; have := SZ14.out; have := SZ15.out; have := SZ16.out; have := SZ17.out; have := SZ18.out; have := SZ19.out; omega)).away U19.out (fun b hb => by have := RG19.out b hb; have := RS_8.out; have := RS_9.out; have := SZ3.out; have := SZ4.out; have := SZ5.out; have := SZ6.out; have := SA6.out; have := SZ7.out; have := SZ8.out; have := SZ9.out; have := SZ10.out; have := SA10.out; have := SZ13.out; have := SZ14.out; have := SZ15.out; have := SZ16.out; have := SZ17.out; have := SZ18.out; have := SZ19.out; omega)).read ((((((((((((O5.out.ext u6).ext u7).ext u8).ext u9).ext u10).ext u13).ext u14).ext u15).ext u16).ext u17).away U18.out (fun b hb => by have := RG18.out b hb; have := RS_7.out; have := RS_5.out; have := SZ3.out; have := SZ4.out; have := SZ5.out; have := SZ6.out; have := SA6.out; have := SZ7.out; have := SZ8.out; have := SZ9.out; have := SZ10.out; have := SA10.out; have := SZ13.out; have := SZ14.out; have := SZ15.out; have := SZ16.out; have := SZ17.out; have := SZ18.out; have := SZ19.out; omega)).away U19.out (fun b hb => by have := RG19.out b hb; have := RS_8.out; have := RS_5.out; have := SZ3.out; have := SZ4.out; have := SZ5.out; have := SZ6.out; have := SA6.out; have := SZ7.out; have := SZ8.out; have := SZ9.out; have := SZ10.out; have := SA10.out; have := SZ13.out; have := SZ14.out; have := SZ15.out; have := SZ16.out; have := SZ17.out; have := SZ18.out; have := SZ19.out; omega)).read).mono ?_
  rintro e w22 ⟨rfl, u22⟩
  have v22 := v19.trans u22
  have SZ22 := Lib.hid u22.size
  have bx23 := ((((((((bo9.ext u13).ext u14).ext u15).ext u16).ext u17).upd U18.out (fun hb => by have := RG18.out _ hb; have := RS_7.out; have := SZ3.out; have := SZ4.out; have := SZ5.out; have := SZ6.out; have := SA6.out; have := SZ7.out; have := SZ8.out; have := SZ9.out; have := SZ10.out; have := SA10.out; have := SZ13.out; have := SZ14.out; have := SZ15.out; have := SZ16.out; have := SZ17.out; have := SZ18.out; have := SZ19.out; have := SZ22.out; omega)).upd U19.out (fun hb => by have := RG19.out _ hb; have := RS_8.out; have := SZ3.out; have := SZ4.out; have := SZ5.out; have := SZ6.out; have := SA6.out; have := SZ7.out; have := SZ8.out; have := SZ9.out; have := SZ10.out; have := SA10.out; have := SZ13.out; have := SZ14.out; have := SZ15.out; have := SZ16.out; have := SZ17.out; have := SZ18.out; have := SZ19.out; have := SZ22.out; omega)).ext u22)
  have cx23_0 := bx23.cell 0 (by simp)
  have cx23_1 := bx23.cell 1 (by simp)
  go_wp2_with fail
  refine (markBounds_c _ _ _ V0 1 _ (((((((((O9.out.ext u10).ext u13).ext u14).ext u15).ext u16).ext u17).away U18.out (fun b hb => by have := RG18.out b hb; have := RS_7.out; have := RS_9.out; have := SZ3.out; have := SZ4.out; have := SZ5.out; have := SZ6.out; have := SA6.out; have := SZ7.out; have := SZ8.out; have := SZ9.out; have := SZ10.out; have := SA10.out; have := SZ13.out; have := SZ14.out; have := SZ15.out; have := SZ16.out; have := SZ17.out; have := SZ18.out; have := SZ19.out; have := SZ22.out; omega)).away U19.out (fun b hb => by have := RG19.out b hb; have := RS_8.out; have := RS_9.out; have := SZ3.out; have := SZ4.out; have := SZ5.out; have := SZ6.out; have := SA6.out; have := SZ7.out; have := SZ8.out; have := SZ9.out; have := SZ10.out; have := SA10.out; have := SZ13.out; have := SZ14.out; have := SZ15.out; have := SZ16.out; have := SZ17.out; have := SZ18.out; have := SZ19.out; have := SZ22.out; omega)).ext u22) RS0.out (by omega)).mono ?_
  rw [HM0.out]
  rintro e w24 ⟨rfl, ⟨ys24, o24, mk24⟩, u24⟩
  have OM24 := Lib.hid o24; clear o24
  have MK24 := Lib.hid mk24; clear mk24
  have U24 := Lib.hid u24; clear u24
  have RG24 := Lib.hid (rgOf U24.out)
  have v24 := v22.of_upd U24.out (fun b hb => by have := RG24.out b hb; have := SZ3.out; have := SZ4.out; have := SZ5.out; have := SZ6.out; have := SA6.out; have := SZ7.out; have := SZ8.out; have := SZ9.out; have := SZ10.out; have := SA10.out; have := SZ13.out; have := SZ14.out; have := SZ15.out; have := SZ16.out; have := SZ17.out; have := SZ18.out; have := SZ19.out; have := SZ22.out; omega)
  have SZ24 := Lib.hid U24.out.size
  have bx25 := (((((((((bo9.ext u13).ext u14).ext u15).ext u16).ext u17).upd U18.out (fun hb => by have := RG18.out _ hb; have := RS_7.out; have := SZ3.out; have := SZ4.out; have := SZ5.out; have := SZ6.out; have := SA6.out; have := SZ7.out; have := SZ8.out; have := SZ9.out; have := SZ10.out; have := SA10.out; have := SZ13.out; have := SZ14.out; have := SZ15.out; have := SZ16.out; have := SZ17.out; have := SZ18.out; have := SZ19.out; have := SZ22.out; have := SZ24.out; omega)).upd U19.out (fun hb => by have := RG19.out _ hb; have := RS_8.out; have := SZ3.out; have := SZ4.out; have := SZ5.out; have := SZ6.out; have := SA6.out; have := SZ7.out; have := SZ8.out; have := SZ9.out; have := SZ10.out; have := SA10.out; have := SZ13.out; have := SZ14.out; have := SZ15.out; have := SZ16.out; have := SZ17.out; have := SZ18.out; have := SZ19.out; have := SZ22.out; have := SZ24.out; omega)).ext u22).upd U24.out (fun hb => by have := RG24.out _ hb; have := RS_9.out; have := SZ3.out; have := SZ4.out; have := SZ5.out; have := SZ6.out; have := SA6.out; have := SZ7.out; have := SZ8.out; have := SZ9.out; have := SZ10.out; have := SA10.out; have := SZ13.out; have := SZ14.out; have := SZ15.out; have := SZ16.out; have := SZ17.out; have := SZ18.out; have := SZ19.out; have := SZ22.out; have := SZ24.out; omega))
  have cx25_0 := bx25.cell 0 (by simp)
  have cx25_1 := bx25.cell 1 (by simp)
  go_wp2_with fail
  refine (heldBounds_c _ V0 ys24 1 _ OM24.out.read MK24.out RS0.out (by omega)).mono ?_
  rw [HM0.out]
  rintro e w26 ⟨rfl, u26⟩
  have v26 := v24.trans u26
  have SZ26 := Lib.hid u26.size
  go_wp2_with fail
  refine (toIntSS_c _ xs0 _ (H0.out.ext v26) S0.out.len S0.out.row).mono ?_
  rintro e w27 ⟨x27, r27, rfl, o27, u27⟩
  have v27 := v26.trans u27
  have SZ27 := Lib.hid u27.size
  have O27 := Lib.hid o27
  clear o27
  have RS_27 := Lib.hid u27.size
  go_wp2_with fail
  refine (toIntSS_c _ xs1 _ (H1.out.ext v27) S1.out.len S1.out.row).mono ?_
  rintro e w28 ⟨x28, r28, rfl, o28, u28⟩
  have v28 := v27.trans u28
  have SZ28 := Lib.hid u28.size
  have O28 := Lib.hid o28
  clear o28
  have RS_28 := Lib.hid u28.size
  go_wp2_with fail
  refine (implImp_c _ xs0 _ xs1 _ (O27.out.ext u28).grid O28.out.grid ).mono ?_
  rw [HV0.out]
  rw [HV1.out]
  rintro e w29 ⟨x29, rfl, o29, u29⟩
  have v29 := v28.trans u29
  have SZ29 := Lib.hid u29.size
  have O29 := Lib.hid o29
  clear o29
  have RS_29 := Lib.hid u29.size
  obtain ⟨a29_0, cp29_0, a29_1, cp29_1, hxx29, _, _⟩ := O29.out.read.form
  subst hxx29
  have bo29 := Box.new w29 37 #[.slice a29_0 V0.lo.length cp29_0, .slice a29_1 V0.hi.length cp29_1] rfl
  have u30 := (Ext.refl w29).alloc (.cells #[.slice a29_0 V0.lo.length cp29_0, .slice a29_1 V0.hi.length cp29_1] 37)
  have v30 := v29.trans u30
  have SZ30 := Lib.hid u30.size
  have SA30 : Hid ((w29.alloc (.cells #[.slice a29_0 V0.lo.length cp29_0, .slice a29_1 V0.hi.length cp29_1] 37)).heap.size = w29.heap.size + 1) := Lib.hid (by simp)
  have bx31 := bo29
  have cx31_0 := bx31.cell 0 (by simp)
  have cx31_1 := bx31.cell 1 (by simp)
  have bx32 := ((((((((((((((((((bo5.ext u7).ext u8).ext u9).ext u10).ext u13).ext u14).ext u15).ext u16).ext u17).upd U18.out (fun hb => by have := RG18.out _ hb; have := RS_7.out; have := SZ3.out; have := SZ4.out; have := SZ5.out; have := SZ6.out; have := SA6.out; have := SZ7.out; have := SZ8.out; have := SZ9.out; have := SZ10.out; have := SA10.out; have := SZ13.out; have := SZ14.out; have := SZ15.out; have := SZ16.out; have := SZ17.out; have := SZ18.out; have := SZ19.out; have := SZ22.out; have := SZ24.out; have := SZ26.out; have := SZ27.out; have := SZ28.out; have := SZ29.out; have := SZ30.out; have := SA30.out; omega)).upd U19.out (fun hb => by have := RG19.out _ hb; have := RS_8.out; have := SZ3.out; have := SZ4.out; have := SZ5.out; have := SZ6.out; have := SA6.out; have := SZ7.out; have := SZ8.out; have := SZ9.out; have := SZ10.out; have := SA10.out; have := SZ13.out; have := SZ14.out; have := SZ15.out; have := SZ16.out; have := SZ17.out; have := SZ18.out; have := SZ19.out; have := SZ22.out; have := SZ24.out; have := SZ26.out; have := SZ27.out; have := SZ28.out; have := SZ29.out; have := SZ30.out; have := SA30.out; omega)).ext u22).upd U24.out (fun hb => by have := RG24.out _ hb; have := RS_9.out; have := SZ3.out; have := SZ4.out; have := SZ5.out; have := SZ6.out; have := SA6.out; have := SZ7.out; have := SZ8.out; have := SZ9.out; have := SZ10.out; have := SA10.out; have := SZ13.out; have := SZ14.out; have := SZ15.out; have := SZ16.out; have := SZ17.out; have := SZ18.out; have := SZ19.out; have := SZ22.out; have := SZ24.out; have := SZ26.out; have := SZ27.out; have := SZ28.out; have := SZ29.out; have := SZ30.out; have := SA30.out; omega)).ext u26).ext u27).ext u28).ext u29).ext u30)
  have cx32_0 := bx32.cell 0 (by simp)
  have cx32_1 := bx32.cell 1 (by simp)
  go_wp2_with fail
  refine (eqBounds_t _ _ V0 _ (O29.out.ext u30).read (((((((((((((((((((O5.out.ext u6).ext u7).ext u8).ext u9).ext u10).ext u13).ext u14).ext u15).ext u16).ext u17).away U18.out (fun b hb => by have := RG18.out b hb; have := RS_7.out; have := RS_5.out; have := SZ3.out; have := SZ4.out; have := SZ5.out; have := SZ6.out; have := SA6.out; have := SZ7.out; have := SZ8.out; have := SZ9.out; have := SZ10.out; have := SA10.out; have := SZ13.out; have := SZ14.out; have := SZ15.out; have := SZ16.out; have := SZ17.out; have := SZ18.out; have := SZ19.out; have := SZ22.out; have := SZ24.out; have := SZ26.out; have := SZ27.out; have := SZ28.out; have := SZ29.out; have := SZ30.out; have := SA30.out; omega)).away U19.out (fun b hb => by have := RG19.out b hb; have := RS_8.out; have := RS_5.out; have := SZ3.out; have := SZ4.out; have := SZ5.out; have := SZ6.out; have := SA6.out; have := SZ7.out; have := SZ8.out; have := SZ9.out; have := SZ10.out; have := SA10.out; have := SZ13.out; have := SZ14.out; have := SZ15.out; have := SZ16.out; have := SZ17.out; have := SZ18.out; have := SZ19.out; have := SZ22.out; have := SZ24.out; have := SZ26.out; have := SZ27.out; have := SZ28.out; have := SZ29.out; have := SZ30.out; have := SA30.out; omega)).ext u22).away U24.out (fun b hb => by have := RG24.out b hb; have := RS_9.out; have := RS_5.out; have := SZ3.out; have := SZ4.out; have := SZ5.out; have := SZ6.out; have := SA6.out; have := SZ7.out; have := SZ8.out; have := SZ9.out; have := SZ10.out; have := SA10.out; have := SZ13.out; have := SZ14.out; have := SZ15.out; have := SZ16.out; have := SZ17.out; have := SZ18.out; have := SZ19.out; have := SZ22.out; have := SZ24.out; have := SZ26.out; have := SZ27.out; have := SZ28.out; have := SZ29.out; have := SZ30.out; have := SA30.out; omega)).ext u26).ext u27).ext u28).ext u29).ext u30).read).mono ?_
  rintro e w33 ⟨rfl, u33⟩
  have v33 := v30.trans u33
  have SZ33 := Lib.hid u33.size
  have bx34 := (((((((((((((((bo9.ext u13).ext u14).ext u15).ext u16).ext u17).upd U18.out (fun hb => by have := RG18.out _ hb; have := RS_7.out; have := SZ3.out; have := SZ4.out; have := SZ5.out; have := SZ6.out; have := SA6.out; have := SZ7.out; have := SZ8.out; have := SZ9.out; have := SZ10.out; have := SA10.out; have := SZ13.out; have := SZ14.out; have := SZ15.out; have := SZ16.out; have := SZ17.out; have := SZ18.out; have := SZ19.out; have := SZ22.out; have := SZ24.out; have := SZ26.out; have := SZ27.out; have := SZ28.out; have := SZ29.out; have := SZ30.out; have := SA30.out; have := SZ33.out; omega)).upd U19.out (fun hb => by have := RG19.out _ hb; have := RS_8.out; have := SZ3.out; have := SZ4.out; have := SZ5.out; have := SZ6.out; have := SA6.out; have := SZ7.out; have := SZ8.out; have := SZ9.out; have := SZ10.out; have := SA10.out; have := SZ13.out; have := SZ14.out; have := SZ15.out; have := SZ16.out; have := SZ17.out; have := SZ18.out; have := SZ19.out; have := SZ22.out; have := SZ24.out; have := SZ26.out; have := SZ27.out; have := SZ28.out; have := SZ29.out; have := SZ30.out; have := SA30.out; have := SZ33.out; omega)).ext u22).upd U24.out (fun hb => by have := RG24.out _ hb; have := RS_9.out; have := SZ3.out; have := SZ4.out; have := SZ5.out; have := SZ6.out; have := SA6.out; have := SZ7.out; have := SZ8.out; have := SZ9.out; have := SZ10.out; have := SA10.out; have := SZ13.out; have := SZ14.out; have := SZ15.out; have := SZ16.out; have := SZ17.out; have := SZ18.out; have := SZ19.out; have := SZ22.out; have := SZ24.out; have := SZ26.out; have := SZ27.out; have := SZ28.out; have := SZ29.out; have := SZ30.out; have := SA30.out; have := SZ33.out; omega)).ext u26).ext u27).ext u28).ext u29).ext u30).ext u33)
  have cx34_0 := bx34.cell 0 (by simp)
  have cx34_1 := bx34.cell 1 (by simp)
  go_wp2_with fail
  refine (heldBounds_c _ V0 ys24 1 _ ((((((OM24.out.ext u26).ext u27).ext u28).ext u29).ext u30).ext u33).read MK24.out RS0.out (by omega)).mono ?_
  rw [HM0.out]
  rintro e w35 ⟨rfl, u35⟩
  have v35 := v33.trans u35
  have SZ35 := Lib.hid u35.size
  go_wp2
  go_ret
  exact ⟨rfl, v35⟩
end Go.Proofs.Ytginndoggpfadaa
