/- The law on CheckPlan. -/
import Derived.Test.YtginndoggpfadaaSec5
import Derived.Test.YtginndoggpfadaaRgOf
import Derived.Deep.RegionHeld3
namespace Go.Proofs.Ytginndoggpfadaa
open Go.RowKit

theorem specCpT_c (v1 : Value) (x : List (List Int)) (v2 : Value) (P : List (List Int)) (down up : Int) (v5 : Value) (T : Pl) (w : World) (h1 : Grid w v1 x) (h2 : Grid w v2 P) (h5 : PlR w v5 T) :
    Calls Try.prog 28 #[v1, v2, .int .i64 down, .int .i64 up, v5] w fun e w' => e = .returned (.tuple #[.int .i64 (cpV x P T.cells down up T.hidden T.total), .bool (cpB x P down up)]) ∧ Ext w w' := by
  have H5 := Lib.hid h5
  obtain ⟨a, c, rfl, _⟩ := h5.form
  exact specCp_c v1 x v2 P down up a c T.cells T.hidden T.total w h1 h2 H5.out.f0
theorem implCpT_c (v1 : Value) (x : List (List Int)) (v2 : Value) (P : List (List Int)) (down up : Int) (v5 : Value) (T : Pl) (w : World) (h1 : Grid w v1 x) (h2 : Grid w v2 P) (h5 : PlR w v5 T) :
    Calls Try.prog 30 #[v1, v2, .int .i64 down, .int .i64 up, v5] w fun e w' => e = .returned (.tuple #[.int .i64 (cpV x P T.cells down up T.hidden T.total), .bool (cpB x P down up)]) ∧ Ext w w' := by
  have H5 := Lib.hid h5
  obtain ⟨a, c, rfl, _⟩ := h5.form
  exact implCp_c v1 x v2 P down up a c T.cells T.hidden T.total w h1 h2 H5.out.f0
set_option maxHeartbeats 3200000 in
theorem lawCheckPlan_c (v0 : Value) (xs0 : List (List Int)) (v1 : Value) (xs1 : List (List Int)) (a2 : Int) (a3 : Int) (v4 : Value) (xs4 : Pl) (w : World) (h0 : Grid w v0 xs0) (h1 : Grid w v1 xs1) (h4 : PlR w v4 xs4) (_ : WfG xs0) (_ : WfG xs1) (i2 : -9223372036854775808 ≤ a2 ∧ a2 ≤ 9223372036854775807) (i3 : -9223372036854775808 ≤ a3 ∧ a3 ≤ 9223372036854775807) (_ : PlWf xs4) :
    Calls Try.prog 8 #[v0, v1, .int .i64 a2, .int .i64 a3, v4] w fun e w' => e = .returned (.bool true) ∧ Ext w w' := by
  have H0 := Lib.hid h0; clear h0
  have H1 := Lib.hid h1; clear h1
  have I2 := Lib.hid i2; clear i2
  have I3 := Lib.hid i3; clear i3
  have H4 := Lib.hid h4
  obtain ⟨ao4_0, cap4_0, rfl, _⟩ := h4.form; clear h4
  have ba4 := Box.new w 43 #[.slice ao4_0 xs4.cells.length cap4_0, .int .i64 xs4.hidden, .int .i64 xs4.total] rfl
  have SZ0_0 : Hid ((w.alloc (.cells #[.slice ao4_0 xs4.cells.length cap4_0, .int .i64 xs4.hidden, .int .i64 xs4.total] 43)).heap.size = w.heap.size + 1) := Lib.hid (by simp)
  have v0 := ((Ext.refl w).alloc (.cells #[.slice ao4_0 xs4.cells.length cap4_0, .int .i64 xs4.hidden, .int .i64 xs4.total] 43))
  obtain ⟨V0, hV0⟩ : ∃ V, cpV xs0 xs1 xs4.cells a2 a3 xs4.hidden xs4.total = V := ⟨_, rfl⟩
  have HV0 := Lib.hid hV0; clear hV0
  have qv0 : (V0 != V0) = false := by simp
  have qw0 : decide (V0 = V0) = true := by simp
  obtain ⟨V1, hV1⟩ : ∃ V, cpB xs0 xs1 a2 a3 = V := ⟨_, rfl⟩
  have HV1 := Lib.hid hV1; clear hV1
  have qv1 : (V1 != V1) = false := by simp
  go_enter Try.func8, Try.ntmps8
  obtain ⟨t0, ht0⟩ : ∃ t, szG 1048576 xs0 = t := ⟨_, rfl⟩
  have T0 := Lib.hid ht0; clear ht0
  go_wp2_with fail
  refine (szIntSS_c _ xs0 1048576 _ (H0.out.ext v0) (by omega)).mono ?_
  rw [T0.out]
  rintro e w' ⟨rfl, rfl⟩
  by_cases hz0 : t0 < 0
  · go_wp2
    go_ret
    exact ⟨rfl, v0⟩
  have tr0 : 0 ≤ t0 ∧ t0 ≤ 1048576 := by have h1 := T0.out; have h2 := szG_range (left := 1048576) (xss := xs0) (by omega); omega
  have S0 := Lib.hid (Small.of_szG (left := 1048576) (xss := xs0) (by omega) (by have h1 := T0.out; omega))
  obtain ⟨t1, ht1⟩ : ∃ t, szG t0 xs1 = t := ⟨_, rfl⟩
  have T1 := Lib.hid ht1; clear ht1
  go_wp2_with fail
  refine (szIntSS_c _ xs1 t0 _ (H1.out.ext v0) (by omega)).mono ?_
  rw [T1.out]
  rintro e w' ⟨rfl, rfl⟩
  by_cases hz1 : t1 < 0
  · go_wp2
    go_ret
    exact ⟨rfl, v0⟩
  have tr1 : 0 ≤ t1 ∧ t1 ≤ 1048576 := by have h1 := T1.out; have h2 := szG_range (left := t0) (xss := xs1) (by omega); omega
  have S1 := Lib.hid (Small.of_szG (left := t0) (xss := xs1) (by omega) (by have h1 := T1.out; omega))
  have bx3 := ba4
  have cx3_0 := bx3.cell 0 (by simp)
  have cx3_1 := bx3.cell 1 (by simp)
  have cx3_2 := bx3.cell 2 (by simp)
  go_wp2_with fail
  refine (szPlan_c _ xs4 t1 _ (H4.out.ext v0) (by omega)).mono ?_
  rintro e w4 ⟨t4, rfl, hr4, u4⟩
  have v4 := v0.trans u4
  have SZ4 := Lib.hid u4.size
  rcases hr4 with hr4 | ⟨hr4, hq4, hs4⟩
  · go_wp2
    go_ret
    exact ⟨rfl, v4⟩
  have hz4 : ¬ (t4 < 0) := by omega
  have tr4 : 0 ≤ t4 ∧ t4 ≤ 1048576 := by omega
  have S4 := Lib.hid hs4; clear hs4 hr4 hq4
  have bx5 := (ba4.ext u4)
  have cx5_0 := bx5.cell 0 (by simp)
  have cx5_1 := bx5.cell 1 (by simp)
  have cx5_2 := bx5.cell 2 (by simp)
  go_wp2_with fail
  go_region_held3 (fun w' => w'.cell? ⟨w.heap.size, 0, none⟩ = some (.slice ao4_0 xs4.cells.length cap4_0) ∧ w'.cell? ⟨w.heap.size, 1, none⟩ = some (.int .i64 xs4.hidden) ∧ w'.cell? ⟨w.heap.size, 2, none⟩ = some (.int .i64 xs4.total))
    (first | exact ⟨Ext.cell u9 (Ext.cell u8 (Ext.cell u7 (Ext.cell u6 (cx5_0)))), Ext.cell u9 (Ext.cell u8 (Ext.cell u7 (Ext.cell u6 (cx5_1)))), Ext.cell u9 (Ext.cell u8 (Ext.cell u7 (Ext.cell u6 (cx5_2))))⟩ | exact ⟨Ext.cell u8 (Ext.cell u7 (Ext.cell u6 (cx5_0))), Ext.cell u8 (Ext.cell u7 (Ext.cell u6 (cx5_1))), Ext.cell u8 (Ext.cell u7 (Ext.cell u6 (cx5_2)))⟩ | exact ⟨Ext.cell u7 (Ext.cell u6 (cx5_0)), Ext.cell u7 (Ext.cell u6 (cx5_1)), Ext.cell u7 (Ext.cell u6 (cx5_2))⟩ | exact ⟨Ext.cell u6 (cx5_0), Ext.cell u6 (cx5_1), Ext.cell u6 (cx5_2)⟩ | go_keep)
    ((first | (go_at_call 28; refine (specCpT_c _ xs0 _ xs1 a2 a3 _ xs4 _ ((o6.ext u7).ext u8).grid (o7.ext u8).grid o8.read).mono ?_; rw [HV0.out]; rw [HV1.out]; rintro e w9 ⟨rfl, u9⟩) | (go_at_call 29; refine (toPlan_c _ xs4 _ (H4.out.ext (((v4.drew).trans u6).trans u7)) S4.out).mono ?_; rintro e w8 ⟨x8, rfl, o8, u8⟩) | (go_at_call 11; refine (toIntSS_c _ xs1 _ (H1.out.ext ((v4.drew).trans u6)) S1.out.len S1.out.row).mono ?_; rintro e w7 ⟨x7, r7, rfl, o7, u7⟩) | (go_at_call 11; refine (toIntSS_c _ xs0 _ (H0.out.ext (v4.drew)) S0.out.len S0.out.row).mono ?_; rintro e w6 ⟨x6, r6, rfl, o6, u6⟩)))
  have e9 := (((((Ext.refl w4).drew.trans u6).trans u7).trans u8).trans u9)
  have v9 := v4.trans e9
  have SZ9 := Lib.hid e9.size
  go_wp2_with fail
  refine (toIntSS_c _ xs0 _ (H0.out.ext v9) S0.out.len S0.out.row).mono ?_
  rintro e w10 ⟨x10, r10, rfl, o10, u10⟩
  have v10 := v9.trans u10
  have SZ10 := Lib.hid u10.size
  have O10 := Lib.hid o10
  clear o10
  have RS_10 := Lib.hid u10.size
  go_wp2_with fail
  refine (toIntSS_c _ xs1 _ (H1.out.ext v10) S1.out.len S1.out.row).mono ?_
  rintro e w11 ⟨x11, r11, rfl, o11, u11⟩
  have v11 := v10.trans u11
  have SZ11 := Lib.hid u11.size
  have O11 := Lib.hid o11
  clear o11
  have RS_11 := Lib.hid u11.size
  have bx12 := ((((ba4.ext u4).ext e9).ext u10).ext u11)
  have cx12_0 := bx12.cell 0 (by simp)
  have cx12_1 := bx12.cell 1 (by simp)
  have cx12_2 := bx12.cell 2 (by simp)
  go_wp2_with fail
  refine (toPlan_c _ xs4 _ (H4.out.ext v11) S4.out).mono ?_
  rintro e w13 ⟨x13, rfl, o13, u13⟩
  have v13 := v11.trans u13
  have SZ13 := Lib.hid u13.size
  have O13 := Lib.hid o13
  clear o13
  have RS_13 := Lib.hid u13.size
  obtain ⟨a13_0, cp13_0, hxx13, _⟩ := O13.out.read.form
  subst hxx13
  have bo13 := Box.new w13 47 #[.slice a13_0 xs4.cells.length cp13_0, .int .i64 xs4.hidden, .int .i64 xs4.total] rfl
  have u14 := (Ext.refl w13).alloc (.cells #[.slice a13_0 xs4.cells.length cp13_0, .int .i64 xs4.hidden, .int .i64 xs4.total] 47)
  have v14 := v13.trans u14
  have SZ14 := Lib.hid u14.size
  have SA14 : Hid ((w13.alloc (.cells #[.slice a13_0 xs4.cells.length cp13_0, .int .i64 xs4.hidden, .int .i64 xs4.total] 47)).heap.size = w13.heap.size + 1) := Lib.hid (by simp)
  have bx15 := bo13
  have cx15_0 := bx15.cell 0 (by simp)
  have cx15_1 := bx15.cell 1 (by simp)
  have cx15_2 := bx15.cell 2 (by simp)
  go_wp2_with fail
  refine (implCpT_c _ xs0 _ xs1 a2 a3 _ xs4 _ (((O10.out.ext u11).ext u13).ext u14).grid ((O11.out.ext u13).ext u14).grid (O13.out.ext u14).read ).mono ?_
  rw [HV0.out]
  rw [HV1.out]
  rintro e w16 ⟨rfl, u16⟩
  have v16 := v14.trans u16
  have SZ16 := Lib.hid u16.size
  go_wp2_with fail
  refine (toIntSS_c _ xs0 _ (H0.out.ext v16) S0.out.len S0.out.row).mono ?_
  rintro e w17 ⟨x17, r17, rfl, o17, u17⟩
  have v17 := v16.trans u17
  have SZ17 := Lib.hid u17.size
  have O17 := Lib.hid o17
  clear o17
  have RS_17 := Lib.hid u17.size
  go_wp2_with fail
  refine (eqIntSS_b true _ _ xs0 xs0 _ (by simp) (((((O10.out.ext u11).ext u13).ext u14).ext u16).ext u17).grid O17.out.grid).mono ?_
  rintro e w18 ⟨rfl, d18⟩
  have u18 := Drew.ext d18
  have v18 := v17.trans u18
  have SZ18 := Lib.hid u18.size
  go_wp2_with fail
  refine (toIntSS_c _ xs1 _ (H1.out.ext v18) S1.out.len S1.out.row).mono ?_
  rintro e w19 ⟨x19, r19, rfl, o19, u19⟩
  have v19 := v18.trans u19
  have SZ19 := Lib.hid u19.size
  have O19 := Lib.hid o19
  clear o19
  have RS_19 := Lib.hid u19.size
  go_wp2_with fail
  refine (eqIntSS_b true _ _ xs1 xs1 _ (by simp) ((((((O11.out.ext u13).ext u14).ext u16).ext u17).ext u18).ext u19).grid O19.out.grid).mono ?_
  rintro e w20 ⟨rfl, d20⟩
  have u20 := Drew.ext d20
  have v20 := v19.trans u20
  have SZ20 := Lib.hid u20.size
  have bx21 := (((((((((((ba4.ext u4).ext e9).ext u10).ext u11).ext u13).ext u14).ext u16).ext u17).ext u18).ext u19).ext u20)
  have cx21_0 := bx21.cell 0 (by simp)
  have cx21_1 := bx21.cell 1 (by simp)
  have cx21_2 := bx21.cell 2 (by simp)
  have bx22 := (((((bo13.ext u16).ext u17).ext u18).ext u19).ext u20)
  have cx22_0 := bx22.cell 0 (by simp)
  have cx22_1 := bx22.cell 1 (by simp)
  have cx22_2 := bx22.cell 2 (by simp)
  have HA23 := Lib.hid ((H4.out.ext v20))
  have HX23 := Lib.hid (((((((O13.out.ext u14).ext u16).ext u17).ext u18).ext u19).ext u20).read)
  go_wp2_with fail
  go_region_held3 (fun w' => w'.cell? ⟨w.heap.size, 0, none⟩ = some (.slice ao4_0 xs4.cells.length cap4_0) ∧ w'.cell? ⟨w.heap.size, 1, none⟩ = some (.int .i64 xs4.hidden) ∧ w'.cell? ⟨w.heap.size, 2, none⟩ = some (.int .i64 xs4.total) ∧ w'.cell? ⟨w13.heap.size, 0, none⟩ = some (.slice a13_0 xs4.cells.length cp13_0) ∧ w'.cell? ⟨w13.heap.size, 1, none⟩ = some (.int .i64 xs4.hidden) ∧ w'.cell? ⟨w13.heap.size, 2, none⟩ = some (.int .i64 xs4.total))
    (first | exact ⟨Ext.cell u24 (Ext.cell u23 cx21_0), Ext.cell u24 (Ext.cell u23 cx21_1), Ext.cell u24 (Ext.cell u23 cx21_2), Ext.cell u24 (Ext.cell u23 cx22_0), Ext.cell u24 (Ext.cell u23 cx22_1), Ext.cell u24 (Ext.cell u23 cx22_2)⟩ | exact ⟨Ext.cell u23 cx21_0, Ext.cell u23 cx21_1, Ext.cell u23 cx21_2, Ext.cell u23 cx22_0, Ext.cell u23 cx22_1, Ext.cell u23 cx22_2⟩ | go_keep)
    ((first
      | (go_at_call 29; refine (toPlan_c _ xs4 _ (HA23.out.ext (Ext.refl _).drew) S4.out).mono ?_; rintro e w23 ⟨x23, rfl, o23, u23⟩)
      | (go_at_call 31; refine (eqPlan_t _ _ xs4 _ ((HX23.out.ext (Ext.refl _).drew).ext u23) o23.read).mono ?_; rintro e w24 ⟨rfl, u24⟩)))
  have e24 := ((Ext.refl w20).drew.trans u23).trans u24
  clear o23
  have v24 := v20.trans e24
  have SZ24 := Lib.hid e24.size
  go_wp2
  go_ret
  exact ⟨rfl, v24⟩
end Go.Proofs.Ytginndoggpfadaa
