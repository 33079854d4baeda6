/- The law on NextFlow. -/
import Derived.Test.YtjpomfdmgaambaaNextV
import Derived.Test.YtjpomfdmgaambaaRgOf
import Derived.Deep.RegionHeld3
namespace Go.Proofs.Ytjpomfdmgaambaa
open Go.RowKit

theorem first_small8 {T : Tr} (h1 : T.rows.length ≤ 8) (h2 : T.cols.length ≤ 8) : Small (firstV T) := by
  unfold firstV
  split
  · rename_i he
    have h := he.choose_spec.rc
    exact Small.of_rows8 (by rw [h.len]; exact h1) (fun k hk => by rw [h.row k (by rw [← h.len]; exact hk)]; exact h2)
  · exact Small.of_rows8 (by simp) (fun k hk => by simp at hk)
theorem nx_small {T : Tr} {X : List (List Int)} (h1 : T.rows.length ≤ 8) (h2 : T.cols.length ≤ 8) : ∀ k, Small ((nxTo T X k).getD [])
  | 0 => by rw [nxTo]; exact Small.of_rows8 (by simp) (fun k hk => by simp at hk)
  | k + 1 => by
    rw [nxTo]
    split
    · exact first_small8 (T := upT T X k) h1 h2
    · exact nx_small h1 h2 k
theorem nfV_small (T : Tr) (X : List (List Int)) : Small (nfV T X) := by
  unfold nfV
  split
  · rename_i h
    have ho := trB_true.1 (Bool.and_eq_true_iff.1 h).1
    exact nx_small ho.dims.2.1 ho.dims.2.2.2.1 _
  · exact Small.of_rows8 (by simp) (fun k hk => by simp at hk)

set_option maxHeartbeats 3200000 in
theorem lawNextFlow_c (v0 : Value) (xs0 : Tr) (v1 : Value) (xs1 : List (List Int)) (w : World) (h0 : TrR w v0 xs0) (h1 : Grid w v1 xs1) (_ : TrWf xs0) (_ : WfG xs1) :
    Calls Try.prog 3 #[v0, v1] w fun e w' => e = .returned (.bool true) ∧ Ext w w' := by
  have H0 := Lib.hid h0
  obtain ⟨ao0_0, cap0_0, ao0_1, cap0_1, ao0_2, cap0_2, ao0_3, cap0_3, rfl, _, _, _, _⟩ := h0.form; clear h0
  have H1 := Lib.hid h1; clear h1
  have ba0 := Box.new w 25 #[.slice ao0_0 xs0.rows.length cap0_0, .slice ao0_1 xs0.cols.length cap0_1, .slice ao0_2 xs0.lo.length cap0_2, .slice ao0_3 xs0.hi.length cap0_3] rfl
  have SZ0_0 : Hid ((w.alloc (.cells #[.slice ao0_0 xs0.rows.length cap0_0, .slice ao0_1 xs0.cols.length cap0_1, .slice ao0_2 xs0.lo.length cap0_2, .slice ao0_3 xs0.hi.length cap0_3] 25)).heap.size = w.heap.size + 1) := Lib.hid (by simp)
  have v0 := ((Ext.refl w).alloc (.cells #[.slice ao0_0 xs0.rows.length cap0_0, .slice ao0_1 xs0.cols.length cap0_1, .slice ao0_2 xs0.lo.length cap0_2, .slice ao0_3 xs0.hi.length cap0_3] 25))
  obtain ⟨V0, hV0⟩ : ∃ V, nfV xs0 xs1 = V := ⟨_, rfl⟩
  have HV0 := Lib.hid hV0; clear hV0
  obtain ⟨V1, hV1⟩ : ∃ V, nfB xs0 xs1 = V := ⟨_, rfl⟩
  have HV1 := Lib.hid hV1; clear hV1
  have qv1 : (V1 != V1) = false := by simp
  go_enter Try.func3, Try.ntmps3
  have bx1 := ba0
  have cx1_0 := bx1.cell 0 (by simp)
  have cx1_1 := bx1.cell 1 (by simp)
  have cx1_2 := bx1.cell 2 (by simp)
  have cx1_3 := bx1.cell 3 (by simp)
  go_wp2_with fail
  refine (szTransport_c _ xs0 1048576 _ (H0.out.ext v0) (by omega)).mono ?_
  rintro e w2 ⟨t0, rfl, hr0, u2⟩
  have v2 := v0.trans u2
  have SZ2 := Lib.hid u2.size
  rcases hr0 with hr0 | ⟨hr0, hq0, hs0⟩
  · go_wp2
    go_ret
    exact ⟨rfl, v2⟩
  have hz0 : ¬ (t0 < 0) := by omega
  have tr0 : 0 ≤ t0 ∧ t0 ≤ 1048576 := by omega
  have S0 := Lib.hid hs0; clear hs0 hr0 hq0
  obtain ⟨t1, ht1⟩ : ∃ t, szG t0 xs1 = t := ⟨_, rfl⟩
  have T1 := Lib.hid ht1; clear ht1
  go_wp2_with fail
  refine (szIntSS_c _ xs1 t0 _ (H1.out.ext v2) (by omega)).mono ?_
  rw [T1.out]
  rintro e w2 ⟨rfl, rfl⟩
  by_cases hz1 : t1 < 0
  · go_wp2
    go_ret
    exact ⟨rfl, v2⟩
  have tr1 : 0 ≤ t1 ∧ t1 ≤ 1048576 := by have h1 := T1.out; have h2 := szG_range (left := t0) (xss := xs1) (by omega); omega
  have S1 := Lib.hid (Small.of_szG (left := t0) (xss := xs1) (by omega) (by have h1 := T1.out; omega))
  obtain ⟨k0, hk0⟩ : ∃ k, 1 + TrSize xs0 = k := ⟨_, rfl⟩
  have kb0 : 1 ≤ k0 ∧ k0 ≤ 4194305 := by have h1 := S0.out.size; omega
  have HK0 := Lib.hid hk0; clear hk0
  obtain ⟨k1, hk1⟩ : ∃ k, k0 + (psum xs1 xs1.length : Int) = k := ⟨_, rfl⟩
  have kb1 : 1 ≤ k1 ∧ k1 ≤ 5242881 := by have h1 := S1.out.psum xs1.length (Nat.le_refl _); omega
  have HK1 := Lib.hid hk1; clear hk1
  have kn : ¬ (k1 < 0) := by omega
  have kd : decide (k1 < 0) = false := by simp; omega
  have RS0 := Lib.hid (show Small V0 by rw [← HV0.out]; exact nfV_small _ _)
  obtain ⟨m0, hm0⟩ : ∃ m, 1 + (psum V0 V0.length : Int) = m := ⟨_, rfl⟩
  have mb0 : 1 ≤ m0 ∧ m0 ≤ 1048577 := by have h1 := RS0.out.psum V0.length (Nat.le_refl _); omega
  have HM0 := Lib.hid hm0; clear hm0
  have mn0 : ¬ (m0 < 0) := by omega
  have md0 : decide (m0 < 0) = false := by simp; omega
  have mq : (m0 != m0) = false := by simp
  have bx4 := (ba0.ext u2)
  have cx4_0 := bx4.cell 0 (by simp)
  have cx4_1 := bx4.cell 1 (by simp)
  have cx4_2 := bx4.cell 2 (by simp)
  have cx4_3 := bx4.cell 3 (by simp)
  go_wp2_with fail
  refine (toTransport_c _ xs0 _ (H0.out.ext v2) S0.out).mono ?_
  rintro e w5 ⟨x5, rfl, o5, u5⟩
  have v5 := v2.trans u5
  have SZ5 := Lib.hid u5.size
  have O5 := Lib.hid o5
  clear o5
  have RS_5 := Lib.hid u5.size
  go_wp2_with fail
  refine (toIntSS_c _ xs1 _ (H1.out.ext v5) S1.out.len S1.out.row).mono ?_
  rintro e w6 ⟨x6, r6, rfl, o6, u6⟩
  have v6 := v5.trans u6
  have SZ6 := Lib.hid u6.size
  have O6 := Lib.hid o6
  clear o6
  have RS_6 := Lib.hid u6.size
  go_wp2_with fail
  refine (specNext_c _ xs0 _ xs1 _ (O5.out.ext u6).read O6.out.grid ).mono ?_
  rw [HV0.out]
  rw [HV1.out]
  rintro e w7 ⟨x7, r7, rfl, o7, u7⟩
  have v7 := v6.trans u7
  have SZ7 := Lib.hid u7.size
  have O7 := Lib.hid o7
  clear o7
  have RS_7 := Lib.hid u7.size
  have bx8 := ((((ba0.ext u2).ext u5).ext u6).ext u7)
  have cx8_0 := bx8.cell 0 (by simp)
  have cx8_1 := bx8.cell 1 (by simp)
  have cx8_2 := bx8.cell 2 (by simp)
  have cx8_3 := bx8.cell 3 (by simp)
  go_wp2_with fail
  refine (toTransport_c _ xs0 _ (H0.out.ext v7) S0.out).mono ?_
  rintro e w9 ⟨x9, rfl, o9, u9⟩
  have v9 := v7.trans u9
  have SZ9 := Lib.hid u9.size
  have O9 := Lib.hid o9
  clear o9
  have RS_9 := Lib.hid u9.size
  obtain ⟨a9_0, cp9_0, a9_1, cp9_1, a9_2, cp9_2, a9_3, cp9_3, hxx9, _, _, _, _⟩ := O9.out.read.form
  subst hxx9
  have bo9 := Box.new w9 30 #[.slice a9_0 xs0.rows.length cp9_0, .slice a9_1 xs0.cols.length cp9_1, .slice a9_2 xs0.lo.length cp9_2, .slice a9_3 xs0.hi.length cp9_3] rfl
  have u10 := (Ext.refl w9).alloc (.cells #[.slice a9_0 xs0.rows.length cp9_0, .slice a9_1 xs0.cols.length cp9_1, .slice a9_2 xs0.lo.length cp9_2, .slice a9_3 xs0.hi.length cp9_3] 30)
  have v10 := v9.trans u10
  have SZ10 := Lib.hid u10.size
  have SA10 : Hid ((w9.alloc (.cells #[.slice a9_0 xs0.rows.length cp9_0, .slice a9_1 xs0.cols.length cp9_1, .slice a9_2 xs0.lo.length cp9_2, .slice a9_3 xs0.hi.length cp9_3] 30)).heap.size = w9.heap.size + 1) := Lib.hid (by simp)
  go_wp2_with fail
  refine (toIntSS_c _ xs1 _ (H1.out.ext v10) S1.out.len S1.out.row).mono ?_
  rintro e w11 ⟨x11, r11, rfl, o11, u11⟩
  have v11 := v10.trans u11
  have SZ11 := Lib.hid u11.size
  have O11 := Lib.hid o11
  clear o11
  have RS_11 := Lib.hid u11.size
  have bx12 := (bo9.ext u11)
  have cx12_0 := bx12.cell 0 (by simp)
  have cx12_1 := bx12.cell 1 (by simp)
  have cx12_2 := bx12.cell 2 (by simp)
  have cx12_3 := bx12.cell 3 (by simp)
  go_wp2_with fail
  refine (implNext_c _ xs0 _ xs1 _ ((O9.out.ext u10).ext u11).read O11.out.grid ).mono ?_
  rw [HV0.out]
  rw [HV1.out]
  rintro e w13 ⟨x13, r13, rfl, o13, u13⟩
  have v13 := v11.trans u13
  have SZ13 := Lib.hid u13.size
  have O13 := Lib.hid o13
  clear o13
  have RS_13 := Lib.hid u13.size
  go_wp2_with fail
  refine (eqIntSS_b true _ _ V0 V0 _ (by simp) O13.out.grid ((((O7.out.ext u9).ext u10).ext u11).ext u13).grid).mono ?_
  rintro e w14 ⟨rfl, d14⟩
  have u14 := Drew.ext d14
  have v14 := v13.trans u14
  have SZ14 := Lib.hid u14.size
  have bx15 := (((((((((ba0.ext u2).ext u5).ext u6).ext u7).ext u9).ext u10).ext u11).ext u13).ext u14)
  have cx15_0 := bx15.cell 0 (by simp)
  have cx15_1 := bx15.cell 1 (by simp)
  have cx15_2 := bx15.cell 2 (by simp)
  have cx15_3 := bx15.cell 3 (by simp)
  have bx16 := (((bo9.ext u11).ext u13).ext u14)
  have cx16_0 := bx16.cell 0 (by simp)
  have cx16_1 := bx16.cell 1 (by simp)
  have cx16_2 := bx16.cell 2 (by simp)
  have cx16_3 := bx16.cell 3 (by simp)
  have HA17 := Lib.hid ((H0.out.ext v14))
  have HX17 := Lib.hid (((((O9.out.ext u10).ext u11).ext u13).ext u14).read)
  go_wp2_with fail
  go_region_held3 (fun w' => w'.cell? ⟨w.heap.size, 0, none⟩ = some (.slice ao0_0 xs0.rows.length cap0_0) ∧ w'.cell? ⟨w.heap.size, 1, none⟩ = some (.slice ao0_1 xs0.cols.length cap0_1) ∧ w'.cell? ⟨w.heap.size, 2, none⟩ = some (.slice ao0_2 xs0.lo.length cap0_2) ∧ w'.cell? ⟨w.heap.size, 3, none⟩ = some (.slice ao0_3 xs0.hi.length cap0_3) ∧ w'.cell? ⟨w9.heap.size, 0, none⟩ = some (.slice a9_0 xs0.rows.length cp9_0) ∧ w'.cell? ⟨w9.heap.size, 1, none⟩ = some (.slice a9_1 xs0.cols.length cp9_1) ∧ w'.cell? ⟨w9.heap.size, 2, none⟩ = some (.slice a9_2 xs0.lo.length cp9_2) ∧ w'.cell? ⟨w9.heap.size, 3, none⟩ = some (.slice a9_3 xs0.hi.length cp9_3))
    (first | exact ⟨Ext.cell u18 (Ext.cell u17 cx15_0), Ext.cell u18 (Ext.cell u17 cx15_1), Ext.cell u18 (Ext.cell u17 cx15_2), Ext.cell u18 (Ext.cell u17 cx15_3), Ext.cell u18 (Ext.cell u17 cx16_0), Ext.cell u18 (Ext.cell u17 cx16_1), Ext.cell u18 (Ext.cell u17 cx16_2), Ext.cell u18 (Ext.cell u17 cx16_3)⟩ | exact ⟨Ext.cell u17 cx15_0, Ext.cell u17 cx15_1, Ext.cell u17 cx15_2, Ext.cell u17 cx15_3, Ext.cell u17 cx16_0, Ext.cell u17 cx16_1, Ext.cell u17 cx16_2, Ext.cell u17 cx16_3⟩ | go_keep)
    ((first
      | (go_at_call 10; refine (toTransport_c _ xs0 _ (HA17.out.ext (Ext.refl _).drew) S0.out).mono ?_; rintro e w17 ⟨x17, rfl, o17, u17⟩)
      | (go_at_call 14; refine (eqTransport_t _ _ xs0 _ ((HX17.out.ext (Ext.refl _).drew).ext u17) o17.read).mono ?_; rintro e w18 ⟨rfl, u18⟩)))
  have e18 := ((Ext.refl w14).drew.trans u17).trans u18
  clear o17
  have v18 := v14.trans e18
  have SZ18 := Lib.hid e18.size
  go_wp2_with fail
  refine (toIntSS_c _ xs1 _ (H1.out.ext v18) S1.out.len S1.out.row).mono ?_
  rintro e w19 ⟨x19, r19, rfl, o19, u19⟩
  have v19 := v18.trans u19
  have SZ19 := Lib.hid u19.size
  have O19 := Lib.hid o19
  clear o19
  have RS_19 := Lib.hid u19.size
  go_wp2_with fail
  refine (eqIntSS_b true _ _ xs1 xs1 _ (by simp) ((((O11.out.ext u13).ext u14).ext e18).ext u19).grid O19.out.grid).mono ?_
  rintro e w20 ⟨rfl, d20⟩
  have u20 := Drew.ext d20
  have v20 := v19.trans u20
  have SZ20 := Lib.hid u20.size
  have bx21 := ((((((bo9.ext u11).ext u13).ext u14).ext e18).ext u19).ext u20)
  have cx21_0 := bx21.cell 0 (by simp)
  have cx21_1 := bx21.cell 1 (by simp)
  have cx21_2 := bx21.cell 2 (by simp)
  have cx21_3 := bx21.cell 3 (by simp)
  go_wp2_with fail
  refine (markTransport_c _ _ _ xs0 1 _ (((((((O9.out.ext u10).ext u11).ext u13).ext u14).ext e18).ext u19).ext u20) S0.out (by omega)).mono ?_
  rw [HK0.out]
  rintro e w22 ⟨rfl, ⟨ys22, o22, mk22⟩, u22⟩
  have OM22 := Lib.hid o22; clear o22
  have MK22 := Lib.hid mk22; clear mk22
  have U22 := Lib.hid u22; clear u22
  have RG22 := Lib.hid (rgOf U22.out)
  have v22 := v20.of_upd U22.out (fun b hb => by have := RG22.out b hb; have := SZ0_0.out; have := SZ2.out; have := SZ5.out; have := SZ6.out; have := SZ7.out; have := SZ9.out; have := SZ10.out; have := SA10.out; have := SZ11.out; have := SZ13.out; have := SZ14.out; have := SZ18.out; have := SZ19.out; have := SZ20.out; omega)
  have SZ22 := Lib.hid U22.out.size
  go_wp2_with fail
  refine (markIntSS_c _ _ _ _ xs1 k0 _ ((((((O11.out.ext u13).ext u14).ext e18).ext u19).ext u20).away U22.out (fun b hb => by have := RG22.out b hb; have := RS_9.out; have := RS_11.out; have := SZ0_0.out; have := SZ2.out; have := SZ5.out; have := SZ6.out; have := SZ7.out; have := SZ9.out; have := SZ10.out; have := SA10.out; have := SZ11.out; have := SZ13.out; have := SZ14.out; have := SZ18.out; have := SZ19.out; have := SZ20.out; have := SZ22.out; omega)) S1.out.row S1.out.psum (by omega)).mono ?_
  rw [HK1.out]
  rintro e w23 ⟨rfl, ⟨ys23, o23, mk23⟩, u23⟩
  have OM23 := Lib.hid o23; clear o23
  have MK23 := Lib.hid mk23; clear mk23
  have U23 := Lib.hid u23; clear u23
  have RG23 : Hid (∀ b, rowBlks r11 xs1 b → _ ∧ b < _) := Lib.hid (fun b hb => by have := O11.out.blks hb; exact ⟨this.1, this.2.1⟩)
  have v23 := v22.of_upd U23.out (fun b hb => by have := RG23.out b hb; have := SZ0_0.out; have := SZ2.out; have := SZ5.out; have := SZ6.out; have := SZ7.out; have := SZ9.out; have := SZ10.out; have := SA10.out; have := SZ11.out; have := SZ13.out; have := SZ14.out; have := SZ18.out; have := SZ19.out; have := SZ20.out; have := SZ22.out; omega)
  have SZ23 := Lib.hid U23.out.size
  go_wp2_with fail
  refine (eqIntSS_b true _ _ V0 V0 _ (by simp) ((((((O13.out.ext u14).ext e18).ext u19).ext u20).away U22.out (fun b hb => by have := RG22.out b hb; have := RS_9.out; have := RS_13.out; have := SZ0_0.out; have := SZ2.out; have := SZ5.out; have := SZ6.out; have := SZ7.out; have := SZ9.out; have := SZ10.out; have := SA10.out; have := SZ11.out; have := SZ13.out; have := SZ14.out; have := SZ18.out; have := SZ19.out; have := SZ20.out; have := SZ22.out; have := SZ23.out; omega)).away U23.out (fun b hb => by have := RG23.out b hb; have := RS_11.out; have := RS_13.out; have := SZ0_0.out; have := SZ2.out; have := SZ5.out; have := SZ6.out; have := SZ7.out; have := SZ9.out; have := SZ10.out; have := SA10.out; have := SZ11.out; have := SZ13.out; have := SZ14.out; have := SZ18.out; have := SZ19.out; have := SZ20.out; have := SZ22.out; have := SZ23.out; omega)).grid ((((((((((O7.out.ext u9).ext u10).ext u11).ext u13).ext u14).ext e18).ext u19).ext u20).away U22.out (fun b hb => by have := RG22.out b hb; have := RS_9.out; have := RS_7.out; have := SZ0_0.out; have := SZ2.out; have := SZ5.out; have := SZ6.out; have := SZ7.out; have := SZ9.out; have := SZ10.out; have := SA10.out; have := SZ11.out; have := SZ13.out; have := SZ14.out; have := SZ18.out; have := SZ19.out; have := SZ20.out; have := SZ22.out; have := SZ23.out; omega)).away U23.out (fun b hb => by have := RG23.out b hb; have := RS_11.out; have := RS_7.out; have := SZ0_0.out; have := SZ2.out; have := SZ5.out; have := SZ6.out; have := SZ7.out; have := SZ9.out; have := SZ10.out; have := SA10.out; have := SZ11.out; have := SZ13.out; have := SZ14.out; have := SZ18.out; have := SZ19.out; have := SZ20.out; have := SZ22.out; have := SZ23.out; omega)).grid).mono ?_
  rintro e w24 ⟨rfl, d24⟩
  have u24 := Drew.ext d24
  have v24 := v23.trans u24
  have SZ24 := Lib.hid u24.size
  go_wp2_with fail
  refine (markIntSS_c _ _ _ _ V0 1 _ (((((((O13.out.ext u14).ext e18).ext u19).ext u20).away U22.out (fun b hb => by have := RG22.out b hb; have := RS_9.out; have := RS_13.out; have := SZ0_0.out; have := SZ2.out; have := SZ5.out; have := SZ6.out; have := SZ7.out; have := SZ9.out; have := SZ10.out; have := SA10.out; have := SZ11.out; have := SZ13.out; have := SZ14.out; have := SZ18.out; have := SZ19.out; have := SZ20.out; have := SZ22.out; have := SZ23.out; have := SZ24.out; omega)).away U23.out (fun b hb => by have := RG23.out b hb; have := RS_11.out; have := RS_13.out; have := SZ0_0.out; have := SZ2.out; have := SZ5.out; have := SZ6.out; have := SZ7.out; have := SZ9.out; have := SZ10.out; have := SA10.out; have := SZ11.out; have := SZ13.out; have := SZ14.out; have := SZ18.out; have := SZ19.out; have := SZ20.out; have := SZ22.out; have := SZ23.out; have := SZ24.out; omega)).ext u24) RS0.out.row RS0.out.psum (by omega)).mono ?_
  rw [HM0.out]
  rintro e w25 ⟨rfl, ⟨ys25, o25, mk25⟩, u25⟩
  have OM25 := Lib.hid o25; clear o25
  have MK25 := Lib.hid mk25; clear mk25
  have U25 := Lib.hid u25; clear u25
  have RG25 : Hid (∀ b, rowBlks r13 V0 b → _ ∧ b < _) := Lib.hid (fun b hb => by have := O13.out.blks hb; exact ⟨this.1, this.2.1⟩)
  have v25 := v24.of_upd U25.out (fun b hb => by have := RG25.out b hb; have := SZ0_0.out; have := SZ2.out; have := SZ5.out; have := SZ6.out; have := SZ7.out; have := SZ9.out; have := SZ10.out; have := SA10.out; have := SZ11.out; have := SZ13.out; have := SZ14.out; have := SZ18.out; have := SZ19.out; have := SZ20.out; have := SZ22.out; have := SZ23.out; have := SZ24.out; omega)
  have SZ25 := Lib.hid U25.out.size
  go_wp2_with fail
  refine (heldIntSS_c _ V0 _ 1 _ OM25.out.grid MK25.out RS0.out.row RS0.out.psum (by omega)).mono ?_
  rw [HM0.out]
  rintro e w25 ⟨rfl, rfl⟩
  have bx27 := ((((((((((((((((ba0.ext u2).ext u5).ext u6).ext u7).ext u9).ext u10).ext u11).ext u13).ext u14).ext e18).ext u19).ext u20).upd U22.out (fun hb => by have := RG22.out _ hb; have := RS_9.out; have := SZ0_0.out; have := SZ2.out; have := SZ5.out; have := SZ6.out; have := SZ7.out; have := SZ9.out; have := SZ10.out; have := SA10.out; have := SZ11.out; have := SZ13.out; have := SZ14.out; have := SZ18.out; have := SZ19.out; have := SZ20.out; have := SZ22.out; have := SZ23.out; have := SZ24.out; have := SZ25.out; omega)).upd U23.out (fun hb => by have := RG23.out _ hb; have := RS_11.out; have := SZ0_0.out; have := SZ2.out; have := SZ5.out; have := SZ6.out; have := SZ7.out; have := SZ9.out; have := SZ10.out; have := SA10.out; have := SZ11.out; have := SZ13.out; have := SZ14.out; have := SZ18.out; have := SZ19.out; have := SZ20.out; have := SZ22.out; have := SZ23.out; have := SZ24.out; have := SZ25.out; omega)).ext u24).upd U25.out (fun hb => by have := RG25.out _ hb; have := RS_13.out; have := SZ0_0.out; have := SZ2.out; have := SZ5.out; have := SZ6.out; have := SZ7.out; have := SZ9.out; have := SZ10.out; have := SA10.out; have := SZ11.out; have := SZ13.out; have := SZ14.out; have := SZ18.out; have := SZ19.out; have := SZ20.out; have := SZ22.out; have := SZ23.out; have := SZ24.out; have := SZ25.out; omega))
  have cx27_0 := bx27.cell 0 (by simp)
  have cx27_1 := bx27.cell 1 (by simp)
  have cx27_2 := bx27.cell 2 (by simp)
  have cx27_3 := bx27.cell 3 (by simp)
  go_wp2_with fail
  refine (toTransport_c _ xs0 _ (H0.out.ext v25) S0.out).mono ?_
  rintro e w28 ⟨x28, rfl, o28, u28⟩
  have v28 := v25.trans u28
  have SZ28 := Lib.hid u28.size
  have O28 := Lib.hid o28
  clear o28
  have RS_28 := Lib.hid u28.size
  go_wp2_with fail
  refine (toIntSS_c _ xs1 _ (H1.out.ext v28) S1.out.len S1.out.row).mono ?_
  rintro e w29 ⟨x29, r29, rfl, o29, u29⟩
  have v29 := v28.trans u29
  have SZ29 := Lib.hid u29.size
  have O29 := Lib.hid o29
  clear o29
  have RS_29 := Lib.hid u29.size
  go_wp2_with fail
  refine (implNext_c _ xs0 _ xs1 _ (O28.out.ext u29).read O29.out.grid ).mono ?_
  rw [HV0.out]
  rw [HV1.out]
  rintro e w30 ⟨x30, r30, rfl, o30, u30⟩
  have v30 := v29.trans u30
  have SZ30 := Lib.hid u30.size
  have O30 := Lib.hid o30
  clear o30
  have RS_30 := Lib.hid u30.size
  go_wp2_with fail
  refine (eqIntSS_b true _ _ V0 V0 _ (by simp) O30.out.grid (((((((((((((((O7.out.ext u9).ext u10).ext u11).ext u13).ext u14).ext e18).ext u19).ext u20).away U22.out (fun b hb => by have := RG22.out b hb; have := RS_9.out; have := RS_7.out; have := SZ0_0.out; have := SZ2.out; have := SZ5.out; have := SZ6.out; have := SZ7.out; have := SZ9.out; have := SZ10.out; have := SA10.out; have := SZ11.out; have := SZ13.out; have := SZ14.out; have := SZ18.out; have := SZ19.out; have := SZ20.out; have := SZ22.out; have := SZ23.out; have := SZ24.out; have := SZ25.out; have := SZ28.out; have := SZ29.out; have := SZ30.out; omega)).away U23.out (fun b hb => by have := RG23.out b hb; have := RS_11.out; have := RS_7.out; have := SZ0_0.out; have := SZ2.out; have := SZ5.out; have := SZ6.out; have := SZ7.out; have := SZ9.out; have := SZ10.out; have := SA10.out; have := SZ11.out; have := SZ13.out; have := SZ14.out; have := SZ18.out; have := SZ19.out; have := SZ20.out; have := SZ22.out; have := SZ23.out; have := SZ24.out; have := SZ25.out; have := SZ28.out; have := SZ29.out; have := SZ30.out; omega)).ext u24).away U25.out (fun b hb => by have := RG25.out b hb; have := RS_13.out; have := RS_7.out; have := SZ0_0.out; have := SZ2.out; have := SZ5.out; have := SZ6.out; have := SZ7.out; have := SZ9.out; have := SZ10.out; have := SA10.out; have := SZ11.out; have := SZ13.out; have := SZ14.out; have := SZ18.out; have := SZ19.out; have := SZ20.out; have := SZ22.out; have := SZ23.out; have := SZ24.out; have := SZ25.out; have := SZ28.out; have := SZ29.out; have := SZ30.out; omega)).ext u28).ext u29).ext u30).grid).mono ?_
  rintro e w31 ⟨rfl, d31⟩
  have u31 := Drew.ext d31
  have v31 := v30.trans u31
  have SZ31 := Lib.hid u31.size
  go_wp2_with fail
  refine (heldIntSS_c _ V0 _ 1 _ ((((OM25.out.ext u28).ext u29).ext u30).ext u31).grid MK25.out RS0.out.row RS0.out.psum (by omega)).mono ?_
  rw [HM0.out]
  rintro e w31 ⟨rfl, rfl⟩
  go_wp2
  go_ret
  exact ⟨rfl, v31⟩
end Go.Proofs.Ytjpomfdmgaambaa
