/- The law on DeriveCells. -/
import Derived.Test.YtolmmhdeebgglaaDg
import Derived.Test.YtolmmhdeebgglaaRgOf
import Derived.Deep.RegionHeld3
namespace Go.Proofs.Ytolmmhdeebgglaa
open Go.RowKit

theorem specDerive_l (v1 : Value) (T : Ge) (v2 : Value) (s : List Vr) (v3 : Value) (t : Ta) (v4 : Value) (u : Ta) (v5 : Value) (cells : List Int) (w : World) (h1 : GeR w v1 T) (h2 : Vrs w v2 s) (h3 : TaR w v3 t) (h4 : TaR w v4 u) (h5 : Ints w v5 cells) (hw : WfV s) :
    Calls Try.prog 29 #[v1, v2, v3, v4, v5] w (RetInts (fun v' => .tuple #[v', .bool (okB T.par s t u cells)]) w (dvV T.par s t u cells)) := specDerive_c v1 v2 v3 v4 v5 T s t u cells w h1 h2 h3 h4 h5 hw

theorem implDerive_l (v1 : Value) (T : Ge) (v2 : Value) (s : List Vr) (v3 : Value) (t : Ta) (v4 : Value) (u : Ta) (v5 : Value) (cells : List Int) (w : World) (h1 : GeR w v1 T) (h2 : Vrs w v2 s) (h3 : TaR w v3 t) (h4 : TaR w v4 u) (h5 : Ints w v5 cells) (hw : WfV s) :
    Calls Try.prog 32 #[v1, v2, v3, v4, v5] w (RetInts (fun v' => .tuple #[v', .bool (okB T.par s t u cells)]) w (dvV T.par s t u cells)) := implDerive_c v1 v2 v3 v4 v5 T s t u cells w h1 h2 h3 h4 h5 hw

set_option maxRecDepth 100000 in
set_option maxHeartbeats 12800000 in
theorem lawDeriveCells_c (v0 : Value) (xs0 : Ge) (v1 : Value) (xs1 : List Vr) (v2 : Value) (xs2 : Ta) (v3 : Value) (xs3 : Ta) (v4 : Value) (xs4 : List Int) (w : World) (h0 : GeR w v0 xs0) (h1 : Vrs w v1 xs1) (h2 : TaR w v2 xs2) (h3 : TaR w v3 xs3) (h4 : Ints w v4 xs4) (_ : GeWf xs0) (f1 : WfV xs1) (_ : TaWf xs2) (_ : TaWf xs3) (_ : Wf xs4) :
    Calls Try.prog 5 #[v0, v1, v2, v3, v4] w fun e w' => e = .returned (.bool true) ∧ Ext w w' := by
  have H0 := Lib.hid h0
  obtain ⟨ao0_0, cap0_0, rfl, _⟩ := h0.form; clear h0
  have H1 := Lib.hid h1; clear h1
  have F1 := Lib.hid f1; clear f1
  have H2 := Lib.hid h2
  obtain ⟨ao2_1, cap2_1, ao2_2, cap2_2, rfl, _, _⟩ := h2.form; clear h2
  have H3 := Lib.hid h3
  obtain ⟨ao3_1, cap3_1, ao3_2, cap3_2, rfl, _, _⟩ := h3.form; clear h3
  have H4 := Lib.hid h4
  obtain ⟨ao4, cap4, rfl, p4, q4, r4⟩ := h4
  clear r4
  have ba0 := Box.new w 24 #[.slice ao0_0 xs0.par.length cap0_0] rfl
  have SZ0_0 : Hid ((w.alloc (.cells #[.slice ao0_0 xs0.par.length cap0_0] 24)).heap.size = w.heap.size + 1) := Lib.hid (by simp)
  have ba2 := Box.new (w.alloc (.cells #[.slice ao0_0 xs0.par.length cap0_0] 24)) 53 #[.int .i64 xs2.level, .slice ao2_1 xs2.vars.length cap2_1, .slice ao2_2 xs2.cond.length cap2_2, .int .i64 xs2.sum] (b := w.heap.size + 1) (by simp)
  have ba0 := ba0.alloc (.cells #[.int .i64 xs2.level, .slice ao2_1 xs2.vars.length cap2_1, .slice ao2_2 xs2.cond.length cap2_2, .int .i64 xs2.sum] 53)
  have SZ0_1 : Hid (((w.alloc (.cells #[.slice ao0_0 xs0.par.length cap0_0] 24)).alloc (.cells #[.int .i64 xs2.level, .slice ao2_1 xs2.vars.length cap2_1, .slice ao2_2 xs2.cond.length cap2_2, .int .i64 xs2.sum] 53)).heap.size = (w.alloc (.cells #[.slice ao0_0 xs0.par.length cap0_0] 24)).heap.size + 1) := Lib.hid (by simp)
  have ba3 := Box.new ((w.alloc (.cells #[.slice ao0_0 xs0.par.length cap0_0] 24)).alloc (.cells #[.int .i64 xs2.level, .slice ao2_1 xs2.vars.length cap2_1, .slice ao2_2 xs2.cond.length cap2_2, .int .i64 xs2.sum] 53)) 53 #[.int .i64 xs3.level, .slice ao3_1 xs3.vars.length cap3_1, .slice ao3_2 xs3.cond.length cap3_2, .int .i64 xs3.sum] (b := w.heap.size + 2) (by simp)
  have ba0 := ba0.alloc (.cells #[.int .i64 xs3.level, .slice ao3_1 xs3.vars.length cap3_1, .slice ao3_2 xs3.cond.length cap3_2, .int .i64 xs3.sum] 53)
  have ba2 := ba2.alloc (.cells #[.int .i64 xs3.level, .slice ao3_1 xs3.vars.length cap3_1, .slice ao3_2 xs3.cond.length cap3_2, .int .i64 xs3.sum] 53)
  have SZ0_2 : Hid ((((w.alloc (.cells #[.slice ao0_0 xs0.par.length cap0_0] 24)).alloc (.cells #[.int .i64 xs2.level, .slice ao2_1 xs2.vars.length cap2_1, .slice ao2_2 xs2.cond.length cap2_2, .int .i64 xs2.sum] 53)).alloc (.cells #[.int .i64 xs3.level, .slice ao3_1 xs3.vars.length cap3_1, .slice ao3_2 xs3.cond.length cap3_2, .int .i64 xs3.sum] 53)).heap.size = ((w.alloc (.cells #[.slice ao0_0 xs0.par.length cap0_0] 24)).alloc (.cells #[.int .i64 xs2.level, .slice ao2_1 xs2.vars.length cap2_1, .slice ao2_2 xs2.cond.length cap2_2, .int .i64 xs2.sum] 53)).heap.size + 1) := Lib.hid (by simp)
  have v0 := ((((Ext.refl w).alloc (.cells #[.slice ao0_0 xs0.par.length cap0_0] 24)).alloc (.cells #[.int .i64 xs2.level, .slice ao2_1 xs2.vars.length cap2_1, .slice ao2_2 xs2.cond.length cap2_2, .int .i64 xs2.sum] 53)).alloc (.cells #[.int .i64 xs3.level, .slice ao3_1 xs3.vars.length cap3_1, .slice ao3_2 xs3.cond.length cap3_2, .int .i64 xs3.sum] 53))
  by_cases hl4 : (1048576 : Int) < (xs4.length : Int)
  · go_enter Try.func5, Try.ntmps5
    go_wp2
    go_ret
    exact ⟨rfl, v0⟩
  have L4 := Lib.hid (show xs4.length ≤ 1048576 by omega)
  obtain ⟨V0, hV0⟩ : ∃ V, dvV xs0.par xs1 xs2 xs3 xs4 = V := ⟨_, rfl⟩
  have HV0 := Lib.hid hV0; clear hV0
  obtain ⟨V1, hV1⟩ : ∃ V, okB xs0.par xs1 xs2 xs3 xs4 = V := ⟨_, rfl⟩
  have HV1 := Lib.hid hV1; clear hV1
  have qv1 : (V1 != V1) = false := by simp
  go_enter Try.func5, Try.ntmps5
  have bx1 := ba0
  have cx1_0 := bx1.cell 0 (by simp)
  go_wp2_with fail
  refine (szGeo_c _ xs0 1048576 _ (H0.out.ext v0) (by omega)).mono ?_
  rintro e w2 ⟨t0, rfl, hr0, u2⟩
  have v2 := v0.trans u2
  have SZ2 := Lib.hid u2.size
  rcases hr0 with hr0 | ⟨hr0, hq0, hs0⟩
  · go_wp2
    go_ret
    exact ⟨rfl, v2⟩
  have hz0 : ¬ (t0 < 0) := by omega
  have tr0 : 0 ≤ t0 ∧ t0 ≤ 1048576 := by omega
  have S0 := Lib.hid hs0; clear hs0 hr0 hq0
  go_wp2_with fail
  refine (szVariableS_c _ xs1 t0 _ (H1.out.ext v2) F1.out (by omega)).mono ?_
  rintro e w3 ⟨t1, rfl, hr1, u3⟩
  have v3 := v2.trans u3
  have SZ3 := Lib.hid u3.size
  rcases hr1 with hr1 | ⟨hr1, hq1, hs1⟩
  · go_wp2
    go_ret
    exact ⟨rfl, v3⟩
  have hz1 : ¬ (t1 < 0) := by omega
  have tr1 : 0 ≤ t1 ∧ t1 ≤ 1048576 := by omega
  have S1 := Lib.hid hs1; clear hs1 hr1 hq1
  have bx4 := ((ba2.ext u2).ext u3)
  have cx4_0 := bx4.cell 0 (by simp)
  have cx4_1 := bx4.cell 1 (by simp)
  have cx4_2 := bx4.cell 2 (by simp)
  have cx4_3 := bx4.cell 3 (by simp)
  go_wp2_with fail
  refine (szTable_c _ xs2 t1 _ (H2.out.ext v3) (by omega)).mono ?_
  rintro e w5 ⟨t2, rfl, hr2, u5⟩
  have v5 := v3.trans u5
  have SZ5 := Lib.hid u5.size
  rcases hr2 with hr2 | ⟨hr2, hq2, hs2⟩
  · go_wp2
    go_ret
    exact ⟨rfl, v5⟩
  have hz2 : ¬ (t2 < 0) := by omega
  have tr2 : 0 ≤ t2 ∧ t2 ≤ 1048576 := by have := hs2.size; omega
  have S2 := Lib.hid hs2; clear hs2 hr2 hq2
  have bx6 := (((ba3.ext u2).ext u3).ext u5)
  have cx6_0 := bx6.cell 0 (by simp)
  have cx6_1 := bx6.cell 1 (by simp)
  have cx6_2 := bx6.cell 2 (by simp)
  have cx6_3 := bx6.cell 3 (by simp)
  go_wp2_with fail
  refine (szTable_c _ xs3 t2 _ (H3.out.ext v5) (by omega)).mono ?_
  rintro e w7 ⟨t3, rfl, hr3, u7⟩
  have v7 := v5.trans u7
  have SZ7 := Lib.hid u7.size
  rcases hr3 with hr3 | ⟨hr3, hq3, hs3⟩
  · go_wp2
    go_ret
    exact ⟨rfl, v7⟩
  have hz3 : ¬ (t3 < 0) := by omega
  have tr3 : 0 ≤ t3 ∧ t3 ≤ 1048576 := by have := hs3.size; omega
  have S3 := Lib.hid hs3; clear hs3 hr3 hq3
  obtain ⟨k0, hk0⟩ : ∃ k, 1 + GeSize xs0 = k := ⟨_, rfl⟩
  have kb0 : 1 ≤ k0 ∧ k0 ≤ 4194305 := by have h1 := S0.out.size; omega
  have HK0 := Lib.hid hk0; clear hk0
  obtain ⟨k1, hk1⟩ : ∃ k, k0 + 2 * (xs1.length : Int) = k := ⟨_, rfl⟩
  have kb1 : 1 ≤ k1 ∧ k1 ≤ 6291457 := by have h1 := S1.out.1; omega
  have HK1 := Lib.hid hk1; clear hk1
  obtain ⟨k2, hk2⟩ : ∃ k, k1 + TaSize xs2 = k := ⟨_, rfl⟩
  have kb2 : 1 ≤ k2 ∧ k2 ≤ 10485761 := by have h1 := S2.out.size; omega
  have HK2 := Lib.hid hk2; clear hk2
  obtain ⟨k3, hk3⟩ : ∃ k, k2 + TaSize xs3 = k := ⟨_, rfl⟩
  have kb3 : 1 ≤ k3 ∧ k3 ≤ 14680065 := by have h1 := S3.out.size; omega
  have HK3 := Lib.hid hk3; clear hk3
  obtain ⟨k4, hk4⟩ : ∃ k, k3 + (xs4.length : Int) = k := ⟨_, rfl⟩
  have kb4 : 1 ≤ k4 ∧ k4 ≤ 15728641 := by have h1 := L4.out; omega
  have HK4 := Lib.hid hk4; clear hk4
  have kn : ¬ (k4 < 0) := by omega
  have kd : decide (k4 < 0) = false := by simp; omega
  have RS0 := Lib.hid (show V0.length ≤ 1048576 by rw [← HV0.out]; exact dvV_len _ _ _ _ _)
  obtain ⟨m0, hm0⟩ : ∃ m, 1 + (V0.length : Int) = m := ⟨_, rfl⟩
  have mb0 : 1 ≤ m0 ∧ m0 ≤ 1048577 := by have h1 := RS0.out; omega
  have HM0 := Lib.hid hm0; clear hm0
  have mn0 : ¬ (m0 < 0) := by omega
  have md0 : decide (m0 < 0) = false := by simp; omega
  have mq : (m0 != m0) = false := by simp
  have bx8 := ((((ba0.ext u2).ext u3).ext u5).ext u7)
  have cx8_0 := bx8.cell 0 (by simp)
  have bx9 := ((((ba2.ext u2).ext u3).ext u5).ext u7)
  have cx9_0 := bx9.cell 0 (by simp)
  have cx9_1 := bx9.cell 1 (by simp)
  have cx9_2 := bx9.cell 2 (by simp)
  have cx9_3 := bx9.cell 3 (by simp)
  have bx10 := ((((ba3.ext u2).ext u3).ext u5).ext u7)
  have cx10_0 := bx10.cell 0 (by simp)
  have cx10_1 := bx10.cell 1 (by simp)
  have cx10_2 := bx10.cell 2 (by simp)
  have cx10_3 := bx10.cell 3 (by simp)
  go_wp2_with fail
  go_region_held3 (fun w' => w'.cell? ⟨w.heap.size, 0, none⟩ = some (.slice ao0_0 xs0.par.length cap0_0) ∧ w'.cell? ⟨w.heap.size + 1, 0, none⟩ = some (.int .i64 xs2.level) ∧ w'.cell? ⟨w.heap.size + 1, 1, none⟩ = some (.slice ao2_1 xs2.vars.length cap2_1) ∧ w'.cell? ⟨w.heap.size + 1, 2, none⟩ = some (.slice ao2_2 xs2.cond.length cap2_2) ∧ w'.cell? ⟨w.heap.size + 1, 3, none⟩ = some (.int .i64 xs2.sum) ∧ w'.cell? ⟨w.heap.size + 2, 0, none⟩ = some (.int .i64 xs3.level) ∧ w'.cell? ⟨w.heap.size + 2, 1, none⟩ = some (.slice ao3_1 xs3.vars.length cap3_1) ∧ w'.cell? ⟨w.heap.size + 2, 2, none⟩ = some (.slice ao3_2 xs3.cond.length cap3_2) ∧ w'.cell? ⟨w.heap.size + 2, 3, none⟩ = some (.int .i64 xs3.sum))
    (first | exact ⟨Ext.cell u16 (Ext.cell u15 (Ext.cell u14 (Ext.cell u13 (Ext.cell u12 (Ext.cell u11 (cx8_0)))))), Ext.cell u16 (Ext.cell u15 (Ext.cell u14 (Ext.cell u13 (Ext.cell u12 (Ext.cell u11 (cx9_0)))))), Ext.cell u16 (Ext.cell u15 (Ext.cell u14 (Ext.cell u13 (Ext.cell u12 (Ext.cell u11 (cx9_1)))))), Ext.cell u16 (Ext.cell u15 (Ext.cell u14 (Ext.cell u13 (Ext.cell u12 (Ext.cell u11 (cx9_2)))))), Ext.cell u16 (Ext.cell u15 (Ext.cell u14 (Ext.cell u13 (Ext.cell u12 (Ext.cell u11 (cx9_3)))))), Ext.cell u16 (Ext.cell u15 (Ext.cell u14 (Ext.cell u13 (Ext.cell u12 (Ext.cell u11 (cx10_0)))))), Ext.cell u16 (Ext.cell u15 (Ext.cell u14 (Ext.cell u13 (Ext.cell u12 (Ext.cell u11 (cx10_1)))))), Ext.cell u16 (Ext.cell u15 (Ext.cell u14 (Ext.cell u13 (Ext.cell u12 (Ext.cell u11 (cx10_2)))))), Ext.cell u16 (Ext.cell u15 (Ext.cell u14 (Ext.cell u13 (Ext.cell u12 (Ext.cell u11 (cx10_3))))))⟩ | exact ⟨Ext.cell u15 (Ext.cell u14 (Ext.cell u13 (Ext.cell u12 (Ext.cell u11 (cx8_0))))), Ext.cell u15 (Ext.cell u14 (Ext.cell u13 (Ext.cell u12 (Ext.cell u11 (cx9_0))))), Ext.cell u15 (Ext.cell u14 (Ext.cell u13 (Ext.cell u12 (Ext.cell u11 (cx9_1))))), Ext.cell u15 (Ext.cell u14 (Ext.cell u13 (Ext.cell u12 (Ext.cell u11 (cx9_2))))), Ext.cell u15 (Ext.cell u14 (Ext.cell u13 (Ext.cell u12 (Ext.cell u11 (cx9_3))))), Ext.cell u15 (Ext.cell u14 (Ext.cell u13 (Ext.cell u12 (Ext.cell u11 (cx10_0))))), Ext.cell u15 (Ext.cell u14 (Ext.cell u13 (Ext.cell u12 (Ext.cell u11 (cx10_1))))), Ext.cell u15 (Ext.cell u14 (Ext.cell u13 (Ext.cell u12 (Ext.cell u11 (cx10_2))))), Ext.cell u15 (Ext.cell u14 (Ext.cell u13 (Ext.cell u12 (Ext.cell u11 (cx10_3)))))⟩ | exact ⟨Ext.cell u14 (Ext.cell u13 (Ext.cell u12 (Ext.cell u11 (cx8_0)))), Ext.cell u14 (Ext.cell u13 (Ext.cell u12 (Ext.cell u11 (cx9_0)))), Ext.cell u14 (Ext.cell u13 (Ext.cell u12 (Ext.cell u11 (cx9_1)))), Ext.cell u14 (Ext.cell u13 (Ext.cell u12 (Ext.cell u11 (cx9_2)))), Ext.cell u14 (Ext.cell u13 (Ext.cell u12 (Ext.cell u11 (cx9_3)))), Ext.cell u14 (Ext.cell u13 (Ext.cell u12 (Ext.cell u11 (cx10_0)))), Ext.cell u14 (Ext.cell u13 (Ext.cell u12 (Ext.cell u11 (cx10_1)))), Ext.cell u14 (Ext.cell u13 (Ext.cell u12 (Ext.cell u11 (cx10_2)))), Ext.cell u14 (Ext.cell u13 (Ext.cell u12 (Ext.cell u11 (cx10_3))))⟩ | exact ⟨Ext.cell u13 (Ext.cell u12 (Ext.cell u11 (cx8_0))), Ext.cell u13 (Ext.cell u12 (Ext.cell u11 (cx9_0))), Ext.cell u13 (Ext.cell u12 (Ext.cell u11 (cx9_1))), Ext.cell u13 (Ext.cell u12 (Ext.cell u11 (cx9_2))), Ext.cell u13 (Ext.cell u12 (Ext.cell u11 (cx9_3))), Ext.cell u13 (Ext.cell u12 (Ext.cell u11 (cx10_0))), Ext.cell u13 (Ext.cell u12 (Ext.cell u11 (cx10_1))), Ext.cell u13 (Ext.cell u12 (Ext.cell u11 (cx10_2))), Ext.cell u13 (Ext.cell u12 (Ext.cell u11 (cx10_3)))⟩ | exact ⟨Ext.cell u12 (Ext.cell u11 (cx8_0)), Ext.cell u12 (Ext.cell u11 (cx9_0)), Ext.cell u12 (Ext.cell u11 (cx9_1)), Ext.cell u12 (Ext.cell u11 (cx9_2)), Ext.cell u12 (Ext.cell u11 (cx9_3)), Ext.cell u12 (Ext.cell u11 (cx10_0)), Ext.cell u12 (Ext.cell u11 (cx10_1)), Ext.cell u12 (Ext.cell u11 (cx10_2)), Ext.cell u12 (Ext.cell u11 (cx10_3))⟩ | exact ⟨Ext.cell u11 (cx8_0), Ext.cell u11 (cx9_0), Ext.cell u11 (cx9_1), Ext.cell u11 (cx9_2), Ext.cell u11 (cx9_3), Ext.cell u11 (cx10_0), Ext.cell u11 (cx10_1), Ext.cell u11 (cx10_2), Ext.cell u11 (cx10_3)⟩ | go_keep)
    ((first | (go_at_call 29; refine (specDerive_l _ xs0 _ xs1 _ xs2 _ xs3 _ xs4 _ ((((o11.ext u12).ext u13).ext u14).ext u15).read (((o12.ext u13).ext u14).ext u15).read ((o13.ext u14).ext u15).read (o14.ext u15).read o15.ints F1.out).mono ?_; rw [HV0.out]; rw [HV1.out]; rintro e w16 ⟨x16, rfl, o16, u16⟩) | (go_at_call 31; refine (toIntS_c _ xs4 _ (H4.out.ext (((((v7.drew).trans u11).trans u12).trans u13).trans u14)) L4.out).mono ?_; rintro e w15 ⟨x15, rfl, o15, u15⟩) | (go_at_call 30; refine (toTable_c _ xs3 _ (H3.out.ext ((((v7.drew).trans u11).trans u12).trans u13)) S3.out).mono ?_; rintro e w14 ⟨x14, rfl, o14, u14⟩) | (go_at_call 30; refine (toTable_c _ xs2 _ (H2.out.ext (((v7.drew).trans u11).trans u12)) S2.out).mono ?_; rintro e w13 ⟨x13, rfl, o13, u13⟩) | (go_at_call 11; refine (toVariableS_c _ xs1 _ (H1.out.ext ((v7.drew).trans u11)) S1.out.1).mono ?_; rintro e w12 ⟨x12, rfl, o12, u12⟩) | (go_at_call 10; refine (toGeo_c _ xs0 _ (H0.out.ext (v7.drew)) S0.out).mono ?_; rintro e w11 ⟨x11, rfl, o11, u11⟩)))
  have e16 := (((((((Ext.refl w7).drew.trans u11).trans u12).trans u13).trans u14).trans u15).trans u16)
  have v16 := v7.trans e16
  have SZ16 := Lib.hid e16.size
  have SY_u11 := Lib.hid u11.size
  have SY_u12 := Lib.hid u12.size
  have SY_u13 := Lib.hid u13.size
  have SY_u14 := Lib.hid u14.size
  have SY_u15 := Lib.hid u15.size
  have SY_u16 := Lib.hid u16.size
  have O16 := Lib.hid o16
  clear o16
  have RS_16 := Lib.hid u16.size
  have bx17 := (((((ba0.ext u2).ext u3).ext u5).ext u7).ext e16)
  have cx17_0 := bx17.cell 0 (by simp)
  go_wp2_with fail
  refine (toGeo_c _ xs0 _ (H0.out.ext v16) S0.out).mono ?_
  rintro e w18 ⟨x18, rfl, o18, u18⟩
  have v18 := v16.trans u18
  have SZ18 := Lib.hid u18.size
  have O18 := Lib.hid o18
  clear o18
  have RS_18 := Lib.hid u18.size
  obtain ⟨a18_0, cp18_0, hxx18, _⟩ := O18.out.read.form
  subst hxx18
  have bo18 := Box.new w18 33 #[.slice a18_0 xs0.par.length cp18_0] rfl
  have u19 := (Ext.refl w18).alloc (.cells #[.slice a18_0 xs0.par.length cp18_0] 33)
  have v19 := v18.trans u19
  have SZ19 := Lib.hid u19.size
  have SA19 : Hid ((w18.alloc (.cells #[.slice a18_0 xs0.par.length cp18_0] 33)).heap.size = w18.heap.size + 1) := Lib.hid (by simp)
  go_wp2_with fail
  refine (toVariableS_c _ xs1 _ (H1.out.ext v19) S1.out.1).mono ?_
  rintro e w20 ⟨x20, rfl, o20, u20⟩
  have v20 := v19.trans u20
  have SZ20 := Lib.hid u20.size
  have O20 := Lib.hid o20
  clear o20
  have RS_20 := Lib.hid u20.size
  have bx21 := ((((((((ba2.ext u2).ext u3).ext u5).ext u7).ext e16).ext u18).ext u19).ext u20)
  have cx21_0 := bx21.cell 0 (by simp)
  have cx21_1 := bx21.cell 1 (by simp)
  have cx21_2 := bx21.cell 2 (by simp)
  have cx21_3 := bx21.cell 3 (by simp)
  go_wp2_with fail
  refine (toTable_c _ xs2 _ (H2.out.ext v20) S2.out).mono ?_
  rintro e w22 ⟨x22, rfl, o22, u22⟩
  have v22 := v20.trans u22
  have SZ22 := Lib.hid u22.size
  have O22 := Lib.hid o22
  clear o22
  have RS_22 := Lib.hid u22.size
  obtain ⟨a22_1, cp22_1, a22_2, cp22_2, hxx22, _, _⟩ := O22.out.read.form
  subst hxx22
  have bo22 := Box.new w22 56 #[.int .i64 xs2.level, .slice a22_1 xs2.vars.length cp22_1, .slice a22_2 xs2.cond.length cp22_2, .int .i64 xs2.sum] rfl
  have u23 := (Ext.refl w22).alloc (.cells #[.int .i64 xs2.level, .slice a22_1 xs2.vars.length cp22_1, .slice a22_2 xs2.cond.length cp22_2, .int .i64 xs2.sum] 56)
  have v23 := v22.trans u23
  have SZ23 := Lib.hid u23.size
  have SA23 : Hid ((w22.alloc (.cells #[.int .i64 xs2.level, .slice a22_1 xs2.vars.length cp22_1, .slice a22_2 xs2.cond.length cp22_2, .int .i64 xs2.sum] 56)).heap.size = w22.heap.size + 1) := Lib.hid (by simp)
  have bx24 := ((((((((((ba3.ext u2).ext u3).ext u5).ext u7).ext e16).ext u18).ext u19).ext u20).ext u22).ext u23)
  have cx24_0 := bx24.cell 0 (by simp)
  have cx24_1 := bx24.cell 1 (by simp)
  have cx24_2 := bx24.cell 2 (by simp)
  have cx24_3 := bx24.cell 3 (by simp)
  go_wp2_with fail
  refine (toTable_c _ xs3 _ (H3.out.ext v23) S3.out).mono ?_
  rintro e w25 ⟨x25, rfl, o25, u25⟩
  have v25 := v23.trans u25
  have SZ25 := Lib.hid u25.size
  have O25 := Lib.hid o25
  clear o25
  have RS_25 := Lib.hid u25.size
  obtain ⟨a25_1, cp25_1, a25_2, cp25_2, hxx25, _, _⟩ := O25.out.read.form
  subst hxx25
  have bo25 := Box.new w25 56 #[.int .i64 xs3.level, .slice a25_1 xs3.vars.length cp25_1, .slice a25_2 xs3.cond.length cp25_2, .int .i64 xs3.sum] rfl
  have u26 := (Ext.refl w25).alloc (.cells #[.int .i64 xs3.level, .slice a25_1 xs3.vars.length cp25_1, .slice a25_2 xs3.cond.length cp25_2, .int .i64 xs3.sum] 56)
  have v26 := v25.trans u26
  have SZ26 := Lib.hid u26.size
  have SA26 : Hid ((w25.alloc (.cells #[.int .i64 xs3.level, .slice a25_1 xs3.vars.length cp25_1, .slice a25_2 xs3.cond.length cp25_2, .int .i64 xs3.sum] 56)).heap.size = w25.heap.size + 1) := Lib.hid (by simp)
  go_wp2_with fail
  refine (toIntS_c _ xs4 _ (H4.out.ext v26) L4.out).mono ?_
  rintro e w27 ⟨x27, rfl, o27, u27⟩
  have v27 := v26.trans u27
  have SZ27 := Lib.hid u27.size
  have O27 := Lib.hid o27
  clear o27
  have RS_27 := Lib.hid u27.size
  have bx28 := ((((((bo18.ext u20).ext u22).ext u23).ext u25).ext u26).ext u27)
  have cx28_0 := bx28.cell 0 (by simp)
  have bx29 := (((bo22.ext u25).ext u26).ext u27)
  have cx29_0 := bx29.cell 0 (by simp)
  have cx29_1 := bx29.cell 1 (by simp)
  have cx29_2 := bx29.cell 2 (by simp)
  have cx29_3 := bx29.cell 3 (by simp)
  have bx30 := (bo25.ext u27)
  have cx30_0 := bx30.cell 0 (by simp)
  have cx30_1 := bx30.cell 1 (by simp)
  have cx30_2 := bx30.cell 2 (by simp)
  have cx30_3 := bx30.cell 3 (by simp)
  go_wp2_with fail
  refine (implDerive_l _ xs0 _ xs1 _ xs2 _ xs3 _ xs4 _ (((((((O18.out.ext u19).ext u20).ext u22).ext u23).ext u25).ext u26).ext u27).read (((((O20.out.ext u22).ext u23).ext u25).ext u26).ext u27).read ((((O22.out.ext u23).ext u25).ext u26).ext u27).read ((O25.out.ext u26).ext u27).read O27.out.ints F1.out ).mono ?_
  rw [HV0.out]
  rw [HV1.out]
  rintro e w31 ⟨x31, rfl, o31, u31⟩
  have v31 := v27.trans u31
  have SZ31 := Lib.hid u31.size
  have O31 := Lib.hid o31
  clear o31
  have RS_31 := Lib.hid u31.size
  go_wp2_with fail
  refine (eqIntS_b true _ _ V0 V0 _ (by simp) O31.out.ints (((((((((O16.out.ext u18).ext u19).ext u20).ext u22).ext u23).ext u25).ext u26).ext u27).ext u31).ints).mono ?_
  rintro e w32 ⟨rfl, d32⟩
  have u32 := Drew.ext d32
  have v32 := v31.trans u32
  have SZ32 := Lib.hid u32.size
  have bx33 := (((((((((((((((ba0.ext u2).ext u3).ext u5).ext u7).ext e16).ext u18).ext u19).ext u20).ext u22).ext u23).ext u25).ext u26).ext u27).ext u31).ext u32)
  have cx33_0 := bx33.cell 0 (by simp)
  have bx34 := ((((((((bo18.ext u20).ext u22).ext u23).ext u25).ext u26).ext u27).ext u31).ext u32)
  have cx34_0 := bx34.cell 0 (by simp)
  have HA35 := Lib.hid ((H0.out.ext v32))
  have HX35 := Lib.hid ((((((((((O18.out.ext u19).ext u20).ext u22).ext u23).ext u25).ext u26).ext u27).ext u31).ext u32).read)
  go_wp2_with fail
  go_region_held3 (fun w' => w'.cell? ⟨w.heap.size, 0, none⟩ = some (.slice ao0_0 xs0.par.length cap0_0) ∧ w'.cell? ⟨w18.heap.size, 0, none⟩ = some (.slice a18_0 xs0.par.length cp18_0))
    (first | exact ⟨Ext.cell u36 (Ext.cell u35 cx33_0), Ext.cell u36 (Ext.cell u35 cx34_0)⟩ | exact ⟨Ext.cell u35 cx33_0, Ext.cell u35 cx34_0⟩ | go_keep)
    ((first
      | (go_at_call 10; refine (toGeo_c _ xs0 _ (HA35.out.ext (Ext.refl _).drew) S0.out).mono ?_; rintro e w35 ⟨x35, rfl, o35, u35⟩)
      | (go_at_call 15; refine (eqGeo_t _ _ xs0 _ ((HX35.out.ext (Ext.refl _).drew).ext u35) o35.read).mono ?_; rintro e w36 ⟨rfl, u36⟩)))
  have e36 := ((Ext.refl w32).drew.trans u35).trans u36
  clear o35
  have v36 := v32.trans e36
  have SZ36 := Lib.hid e36.size
  go_wp2_with fail
  refine (toVariableS_c _ xs1 _ (H1.out.ext v36) S1.out.1).mono ?_
  rintro e w37 ⟨x37, rfl, o37, u37⟩
  have v37 := v36.trans u37
  have SZ37 := Lib.hid u37.size
  have O37 := Lib.hid o37
  clear o37
  have RS_37 := Lib.hid u37.size
  go_wp2_with fail
  refine (eqVariableS_t _ _ xs1 _ (((((((((O20.out.ext u22).ext u23).ext u25).ext u26).ext u27).ext u31).ext u32).ext e36).ext u37).read O37.out.read).mono ?_
  rintro e w38 ⟨rfl, u38⟩
  have v38 := v37.trans u38
  have SZ38 := Lib.hid u38.size
  have bx39 := ((((((((((((((((((ba2.ext u2).ext u3).ext u5).ext u7).ext e16).ext u18).ext u19).ext u20).ext u22).ext u23).ext u25).ext u26).ext u27).ext u31).ext u32).ext e36).ext u37).ext u38)
  have cx39_0 := bx39.cell 0 (by simp)
  have cx39_1 := bx39.cell 1 (by simp)
  have cx39_2 := bx39.cell 2 (by simp)
  have cx39_3 := bx39.cell 3 (by simp)
  have bx40 := ((((((((bo22.ext u25).ext u26).ext u27).ext u31).ext u32).ext e36).ext u37).ext u38)
  have cx40_0 := bx40.cell 0 (by simp)
  have cx40_1 := bx40.cell 1 (by simp)
  have cx40_2 := bx40.cell 2 (by simp)
  have cx40_3 := bx40.cell 3 (by simp)
  have HA41 := Lib.hid ((H2.out.ext v38))
  have HX41 := Lib.hid ((((((((((O22.out.ext u23).ext u25).ext u26).ext u27).ext u31).ext u32).ext e36).ext u37).ext u38).read)
  go_wp2_with fail
  go_region_held3 (fun w' => w'.cell? ⟨w.heap.size + 1, 0, none⟩ = some (.int .i64 xs2.level) ∧ w'.cell? ⟨w.heap.size + 1, 1, none⟩ = some (.slice ao2_1 xs2.vars.length cap2_1) ∧ w'.cell? ⟨w.heap.size + 1, 2, none⟩ = some (.slice ao2_2 xs2.cond.length cap2_2) ∧ w'.cell? ⟨w.heap.size + 1, 3, none⟩ = some (.int .i64 xs2.sum) ∧ w'.cell? ⟨w22.heap.size, 0, none⟩ = some (.int .i64 xs2.level) ∧ w'.cell? ⟨w22.heap.size, 1, none⟩ = some (.slice a22_1 xs2.vars.length cp22_1) ∧ w'.cell? ⟨w22.heap.size, 2, none⟩ = some (.slice a22_2 xs2.cond.length cp22_2) ∧ w'.cell? ⟨w22.heap.size, 3, none⟩ = some (.int .i64 xs2.sum))
    (first | exact ⟨Ext.cell u42 (Ext.cell u41 cx39_0), Ext.cell u42 (Ext.cell u41 cx39_1), Ext.cell u42 (Ext.cell u41 cx39_2), Ext.cell u42 (Ext.cell u41 cx39_3), Ext.cell u42 (Ext.cell u41 cx40_0), Ext.cell u42 (Ext.cell u41 cx40_1), Ext.cell u42 (Ext.cell u41 cx40_2), Ext.cell u42 (Ext.cell u41 cx40_3)⟩ | exact ⟨Ext.cell u41 cx39_0, Ext.cell u41 cx39_1, Ext.cell u41 cx39_2, Ext.cell u41 cx39_3, Ext.cell u41 cx40_0, Ext.cell u41 cx40_1, Ext.cell u41 cx40_2, Ext.cell u41 cx40_3⟩ | go_keep)
    ((first
      | (go_at_call 30; refine (toTable_c _ xs2 _ (HA41.out.ext (Ext.refl _).drew) S2.out).mono ?_; rintro e w41 ⟨x41, rfl, o41, u41⟩)
      | (go_at_call 33; refine (eqTable_t _ _ xs2 _ ((HX41.out.ext (Ext.refl _).drew).ext u41) o41.read).mono ?_; rintro e w42 ⟨rfl, u42⟩)))
  have e42 := ((Ext.refl w38).drew.trans u41).trans u42
  clear o41
  have v42 := v38.trans e42
  have SZ42 := Lib.hid e42.size
  have bx43 := (((((((((((((((((((ba3.ext u2).ext u3).ext u5).ext u7).ext e16).ext u18).ext u19).ext u20).ext u22).ext u23).ext u25).ext u26).ext u27).ext u31).ext u32).ext e36).ext u37).ext u38).ext e42)
  have cx43_0 := bx43.cell 0 (by simp)
  have cx43_1 := bx43.cell 1 (by simp)
  have cx43_2 := bx43.cell 2 (by simp)
  have cx43_3 := bx43.cell 3 (by simp)
  have bx44 := (((((((bo25.ext u27).ext u31).ext u32).ext e36).ext u37).ext u38).ext e42)
  have cx44_0 := bx44.cell 0 (by simp)
  have cx44_1 := bx44.cell 1 (by simp)
  have cx44_2 := bx44.cell 2 (by simp)
  have cx44_3 := bx44.cell 3 (by simp)
  have HA45 := Lib.hid ((H3.out.ext v42))
  have HX45 := Lib.hid (((((((((O25.out.ext u26).ext u27).ext u31).ext u32).ext e36).ext u37).ext u38).ext e42).read)
  go_wp2_with fail
  go_region_held3 (fun w' => w'.cell? ⟨w.heap.size + 2, 0, none⟩ = some (.int .i64 xs3.level) ∧ w'.cell? ⟨w.heap.size + 2, 1, none⟩ = some (.slice ao3_1 xs3.vars.length cap3_1) ∧ w'.cell? ⟨w.heap.size + 2, 2, none⟩ = some (.slice ao3_2 xs3.cond.length cap3_2) ∧ w'.cell? ⟨w.heap.size + 2, 3, none⟩ = some (.int .i64 xs3.sum) ∧ w'.cell? ⟨w25.heap.size, 0, none⟩ = some (.int .i64 xs3.level) ∧ w'.cell? ⟨w25.heap.size, 1, none⟩ = some (.slice a25_1 xs3.vars.length cp25_1) ∧ w'.cell? ⟨w25.heap.size, 2, none⟩ = some (.slice a25_2 xs3.cond.length cp25_2) ∧ w'.cell? ⟨w25.heap.size, 3, none⟩ = some (.int .i64 xs3.sum))
    (first | exact ⟨Ext.cell u46 (Ext.cell u45 cx43_0), Ext.cell u46 (Ext.cell u45 cx43_1), Ext.cell u46 (Ext.cell u45 cx43_2), Ext.cell u46 (Ext.cell u45 cx43_3), Ext.cell u46 (Ext.cell u45 cx44_0), Ext.cell u46 (Ext.cell u45 cx44_1), Ext.cell u46 (Ext.cell u45 cx44_2), Ext.cell u46 (Ext.cell u45 cx44_3)⟩ | exact ⟨Ext.cell u45 cx43_0, Ext.cell u45 cx43_1, Ext.cell u45 cx43_2, Ext.cell u45 cx43_3, Ext.cell u45 cx44_0, Ext.cell u45 cx44_1, Ext.cell u45 cx44_2, Ext.cell u45 cx44_3⟩ | go_keep)
    ((first
      | (go_at_call 30; refine (toTable_c _ xs3 _ (HA45.out.ext (Ext.refl _).drew) S3.out).mono ?_; rintro e w45 ⟨x45, rfl, o45, u45⟩)
      | (go_at_call 33; refine (eqTable_t _ _ xs3 _ ((HX45.out.ext (Ext.refl _).drew).ext u45) o45.read).mono ?_; rintro e w46 ⟨rfl, u46⟩)))
  have e46 := ((Ext.refl w42).drew.trans u45).trans u46
  clear o45
  have v46 := v42.trans e46
  have SZ46 := Lib.hid e46.size
  go_wp2_with fail
  refine (toIntS_c _ xs4 _ (H4.out.ext v46) L4.out).mono ?_
  rintro e w47 ⟨x47, rfl, o47, u47⟩
  have v47 := v46.trans u47
  have SZ47 := Lib.hid u47.size
  have O47 := Lib.hid o47
  clear o47
  have RS_47 := Lib.hid u47.size
  go_wp2_with fail
  refine (eqIntS_b true _ _ xs4 xs4 _ (by simp) ((((((((O27.out.ext u31).ext u32).ext e36).ext u37).ext u38).ext e42).ext e46).ext u47).ints O47.out.ints).mono ?_
  rintro e w48 ⟨rfl, d48⟩
  have u48 := Drew.ext d48
  have v48 := v47.trans u48
  have SZ48 := Lib.hid u48.size
  have bx49 := (((((((((((((((bo18.ext u20).ext u22).ext u23).ext u25).ext u26).ext u27).ext u31).ext u32).ext e36).ext u37).ext u38).ext e42).ext e46).ext u47).ext u48)
  have cx49_0 := bx49.cell 0 (by simp)
  go_wp2_with fail
  refine (markGeo_c _ _ _ xs0 1 _ ((((((((((((((((O18.out.ext u19).ext u20).ext u22).ext u23).ext u25).ext u26).ext u27).ext u31).ext u32).ext e36).ext u37).ext u38).ext e42).ext e46).ext u47).ext u48) S0.out (by omega)).mono ?_
  rw [HK0.out]
  rintro e w50 ⟨rfl, ⟨ys50, o50, mk50⟩, u50⟩
  have OM50 := Lib.hid o50; clear o50
  have MK50 := Lib.hid mk50; clear mk50
  have U50 := Lib.hid u50; clear u50
  have RG50 := Lib.hid (rgOf U50.out)
  have v50 := v48.of_upd U50.out (fun b hb => by have := RG50.out b hb; have := SZ0_0.out; have := SZ0_1.out; have := SZ0_2.out; have := SZ2.out; have := SZ3.out; have := SZ5.out; have := SZ7.out; have := SZ16.out; have := SY_u11.out; have := SY_u12.out; have := SY_u13.out; have := SY_u14.out; have := SY_u15.out; have := SY_u16.out; have := SZ18.out; have := SZ19.out; have := SA19.out; have := SZ20.out; have := SZ22.out; have := SZ23.out; have := SA23.out; have := SZ25.out; have := SZ26.out; have := SA26.out; have := SZ27.out; have := SZ31.out; have := SZ32.out; have := SZ36.out; have := SZ37.out; have := SZ38.out; have := SZ42.out; have := SZ46.out; have := SZ47.out; have := SZ48.out; omega)
  have SZ50 := Lib.hid U50.out.size
  go_wp2_with fail
  refine (markVariableS_c _ _ _ _ xs1 k0 _ (((((((((((((((O20.out.ext u22).ext u23).ext u25).ext u26).ext u27).ext u31).ext u32).ext e36).ext u37).ext u38).ext e42).ext e46).ext u47).ext u48).away U50.out (fun b hb => by have := RG50.out b hb; have := RS_18.out; have := RS_20.out; have := SZ0_0.out; have := SZ0_1.out; have := SZ0_2.out; have := SZ2.out; have := SZ3.out; have := SZ5.out; have := SZ7.out; have := SZ16.out; have := SY_u11.out; have := SY_u12.out; have := SY_u13.out; have := SY_u14.out; have := SY_u15.out; have := SY_u16.out; have := SZ18.out; have := SZ19.out; have := SA19.out; have := SZ20.out; have := SZ22.out; have := SZ23.out; have := SA23.out; have := SZ25.out; have := SZ26.out; have := SA26.out; have := SZ27.out; have := SZ31.out; have := SZ32.out; have := SZ36.out; have := SZ37.out; have := SZ38.out; have := SZ42.out; have := SZ46.out; have := SZ47.out; have := SZ48.out; have := SZ50.out; omega)) S1.out.1 (by omega)).mono ?_
  rw [HK1.out]
  rintro e w51 ⟨rfl, u51⟩
  have U51 := Lib.hid u51; clear u51
  have RG51 : Hid (∀ b, VB x20 xs1 b → _ ∧ b < _) := Lib.hid (fun b hb => by have := O20.out.range hb.1; rw [hb.2]; exact ⟨this.1, this.2.1⟩)
  have v51 := v50.of_upd U51.out (fun b hb => by have := RG51.out b hb; have := SZ0_0.out; have := SZ0_1.out; have := SZ0_2.out; have := SZ2.out; have := SZ3.out; have := SZ5.out; have := SZ7.out; have := SZ16.out; have := SY_u11.out; have := SY_u12.out; have := SY_u13.out; have := SY_u14.out; have := SY_u15.out; have := SY_u16.out; have := SZ18.out; have := SZ19.out; have := SA19.out; have := SZ20.out; have := SZ22.out; have := SZ23.out; have := SA23.out; have := SZ25.out; have := SZ26.out; have := SA26.out; have := SZ27.out; have := SZ31.out; have := SZ32.out; have := SZ36.out; have := SZ37.out; have := SZ38.out; have := SZ42.out; have := SZ46.out; have := SZ47.out; have := SZ48.out; have := SZ50.out; omega)
  have SZ51 := Lib.hid U51.out.size
  have bx52 := ((((((((((((((bo22.ext u25).ext u26).ext u27).ext u31).ext u32).ext e36).ext u37).ext u38).ext e42).ext e46).ext u47).ext u48).upd U50.out (fun hb => by have := RG50.out _ hb; have := RS_18.out; have := SZ0_0.out; have := SZ0_1.out; have := SZ0_2.out; have := SZ2.out; have := SZ3.out; have := SZ5.out; have := SZ7.out; have := SZ16.out; have := SY_u11.out; have := SY_u12.out; have := SY_u13.out; have := SY_u14.out; have := SY_u15.out; have := SY_u16.out; have := SZ18.out; have := SZ19.out; have := SA19.out; have := SZ20.out; have := SZ22.out; have := SZ23.out; have := SA23.out; have := SZ25.out; have := SZ26.out; have := SA26.out; have := SZ27.out; have := SZ31.out; have := SZ32.out; have := SZ36.out; have := SZ37.out; have := SZ38.out; have := SZ42.out; have := SZ46.out; have := SZ47.out; have := SZ48.out; have := SZ50.out; have := SZ51.out; omega)).upd U51.out (fun hb => by have := RG51.out _ hb; have := RS_20.out; have := SZ0_0.out; have := SZ0_1.out; have := SZ0_2.out; have := SZ2.out; have := SZ3.out; have := SZ5.out; have := SZ7.out; have := SZ16.out; have := SY_u11.out; have := SY_u12.out; have := SY_u13.out; have := SY_u14.out; have := SY_u15.out; have := SY_u16.out; have := SZ18.out; have := SZ19.out; have := SA19.out; have := SZ20.out; have := SZ22.out; have := SZ23.out; have := SA23.out; have := SZ25.out; have := SZ26.out; have := SA26.out; have := SZ27.out; have := SZ31.out; have := SZ32.out; have := SZ36.out; have := SZ37.out; have := SZ38.out; have := SZ42.out; have := SZ46.out; have := SZ47.out; have := SZ48.out; have := SZ50.out; have := SZ51.out; omega))
  have cx52_0 := bx52.cell 0 (by simp)
  have cx52_1 := bx52.cell 1 (by simp)
  have cx52_2 := bx52.cell 2 (by simp)
  have cx52_3 := bx52.cell 3 (by simp)
  go_wp2_with fail
  refine (markTable_c _ _ _ xs2 k1 _ (((((((((((((((O22.out.ext u23).ext u25).ext u26).ext u27).ext u31).ext u32).ext e36).ext u37).ext u38).ext e42).ext e46).ext u47).ext u48).away U50.out (fun b hb => by have := RG50.out b hb; have := RS_18.out; have := RS_22.out; have := SZ0_0.out; have := SZ0_1.out; have := SZ0_2.out; have := SZ2.out; have := SZ3.out; have := SZ5.out; have := SZ7.out; have := SZ16.out; have := SY_u11.out; have := SY_u12.out; have := SY_u13.out; have := SY_u14.out; have := SY_u15.out; have := SY_u16.out; have := SZ18.out; have := SZ19.out; have := SA19.out; have := SZ20.out; have := SZ22.out; have := SZ23.out; have := SA23.out; have := SZ25.out; have := SZ26.out; have := SA26.out; have := SZ27.out; have := SZ31.out; have := SZ32.out; have := SZ36.out; have := SZ37.out; have := SZ38.out; have := SZ42.out; have := SZ46.out; have := SZ47.out; have := SZ48.out; have := SZ50.out; have := SZ51.out; omega)).away U51.out (fun b hb => by have := RG51.out b hb; have := RS_20.out; have := RS_22.out; have := SZ0_0.out; have := SZ0_1.out; have := SZ0_2.out; have := SZ2.out; have := SZ3.out; have := SZ5.out; have := SZ7.out; have := SZ16.out; have := SY_u11.out; have := SY_u12.out; have := SY_u13.out; have := SY_u14.out; have := SY_u15.out; have := SY_u16.out; have := SZ18.out; have := SZ19.out; have := SA19.out; have := SZ20.out; have := SZ22.out; have := SZ23.out; have := SA23.out; have := SZ25.out; have := SZ26.out; have := SA26.out; have := SZ27.out; have := SZ31.out; have := SZ32.out; have := SZ36.out; have := SZ37.out; have := SZ38.out; have := SZ42.out; have := SZ46.out; have := SZ47.out; have := SZ48.out; have := SZ50.out; have := SZ51.out; omega)) S2.out (by omega)).mono ?_
  rw [HK2.out]
  rintro e w53 ⟨rfl, ⟨ys53, o53, mk53⟩, u53⟩
  have OM53 := Lib.hid o53; clear o53
  have MK53 := Lib.hid mk53; clear mk53
  have U53 := Lib.hid u53; clear u53
  have RG53 := Lib.hid (rgOf U53.out)
  have v53 := v51.of_upd U53.out (fun b hb => by have := RG53.out b hb; have := SZ0_0.out; have := SZ0_1.out; have := SZ0_2.out; have := SZ2.out; have := SZ3.out; have := SZ5.out; have := SZ7.out; have := SZ16.out; have := SY_u11.out; have := SY_u12.out; have := SY_u13.out; have := SY_u14.out; have := SY_u15.out; have := SY_u16.out; have := SZ18.out; have := SZ19.out; have := SA19.out; have := SZ20.out; have := SZ22.out; have := SZ23.out; have := SA23.out; have := SZ25.out; have := SZ26.out; have := SA26.out; have := SZ27.out; have := SZ31.out; have := SZ32.out; have := SZ36.out; have := SZ37.out; have := SZ38.out; have := SZ42.out; have := SZ46.out; have := SZ47.out; have := SZ48.out; have := SZ50.out; have := SZ51.out; omega)
  have SZ53 := Lib.hid U53.out.size
  have bx54 := (((((((((((((bo25.ext u27).ext u31).ext u32).ext e36).ext u37).ext u38).ext e42).ext e46).ext u47).ext u48).upd U50.out (fun hb => by have := RG50.out _ hb; have := RS_18.out; have := SZ0_0.out; have := SZ0_1.out; have := SZ0_2.out; have := SZ2.out; have := SZ3.out; have := SZ5.out; have := SZ7.out; have := SZ16.out; have := SY_u11.out; have := SY_u12.out; have := SY_u13.out; have := SY_u14.out; have := SY_u15.out; have := SY_u16.out; have := SZ18.out; have := SZ19.out; have := SA19.out; have := SZ20.out; have := SZ22.out; have := SZ23.out; have := SA23.out; have := SZ25.out; have := SZ26.out; have := SA26.out; have := SZ27.out; have := SZ31.out; have := SZ32.out; have := SZ36.out; have := SZ37.out; have := SZ38.out; have := SZ42.out; have := SZ46.out; have := SZ47.out; have := SZ48.out; have := SZ50.out; have := SZ51.out; have := SZ53.out; omega)).upd U51.out (fun hb => by have := RG51.out _ hb; have := RS_20.out; have := SZ0_0.out; have := SZ0_1.out; have := SZ0_2.out; have := SZ2.out; have := SZ3.out; have := SZ5.out; have := SZ7.out; have := SZ16.out; have := SY_u11.out; have := SY_u12.out; have := SY_u13.out; have := SY_u14.out; have := SY_u15.out; have := SY_u16.out; have := SZ18.out; have := SZ19.out; have := SA19.out; have := SZ20.out; have := SZ22.out; have := SZ23.out; have := SA23.out; have := SZ25.out; have := SZ26.out; have := SA26.out; have := SZ27.out; have := SZ31.out; have := SZ32.out; have := SZ36.out; have := SZ37.out; have := SZ38.out; have := SZ42.out; have := SZ46.out; have := SZ47.out; have := SZ48.out; have := SZ50.out; have := SZ51.out; have := SZ53.out; omega)).upd U53.out (fun hb => by have := RG53.out _ hb; have := RS_22.out; have := SZ0_0.out; have := SZ0_1.out; have := SZ0_2.out; have := SZ2.out; have := SZ3.out; have := SZ5.out; have := SZ7.out; have := SZ16.out; have := SY_u11.out; have := SY_u12.out; have := SY_u13.out; have := SY_u14.out; have := SY_u15.out; have := SY_u16.out; have := SZ18.out; have := SZ19.out; have := SA19.out; have := SZ20.out; have := SZ22.out; have := SZ23.out; have := SA23.out; have := SZ25.out; have := SZ26.out; have := SA26.out; have := SZ27.out; have := SZ31.out; have := SZ32.out; have := SZ36.out; have := SZ37.out; have := SZ38.out; have := SZ42.out; have := SZ46.out; have := SZ47.out; have := SZ48.out; have := SZ50.out; have := SZ51.out; have := SZ53.out; omega))
  have cx54_0 := bx54.cell 0 (by simp)
  have cx54_1 := bx54.cell 1 (by simp)
  have cx54_2 := bx54.cell 2 (by simp)
  have cx54_3 := bx54.cell 3 (by simp)
  go_wp2_with fail
  refine (markTable_c _ _ _ xs3 k2 _ ((((((((((((((O25.out.ext u26).ext u27).ext u31).ext u32).ext e36).ext u37).ext u38).ext e42).ext e46).ext u47).ext u48).away U50.out (fun b hb => by have := RG50.out b hb; have := RS_18.out; have := RS_25.out; have := SZ0_0.out; have := SZ0_1.out; have := SZ0_2.out; have := SZ2.out; have := SZ3.out; have := SZ5.out; have := SZ7.out; have := SZ16.out; have := SY_u11.out; have := SY_u12.out; have := SY_u13.out; have := SY_u14.out; have := SY_u15.out; have := SY_u16.out; have := SZ18.out; have := SZ19.out; have := SA19.out; have := SZ20.out; have := SZ22.out; have := SZ23.out; have := SA23.out; have := SZ25.out; have := SZ26.out; have := SA26.out; have := SZ27.out; have := SZ31.out; have := SZ32.out; have := SZ36.out; have := SZ37.out; have := SZ38.out; have := SZ42.out; have := SZ46.out; have := SZ47.out; have := SZ48.out; have := SZ50.out; have := SZ51.out; have := SZ53.out; omega)).away U51.out (fun b hb => by have := RG51.out b hb; have := RS_20.out; have := RS_25.out; have := SZ0_0.out; have := SZ0_1.out; have := SZ0_2.out; have := SZ2.out; have := SZ3.out; have := SZ5.out; have := SZ7.out; have := SZ16.out; have := SY_u11.out; have := SY_u12.out; have := SY_u13.out; have := SY_u14.out; have := SY_u15.out; have := SY_u16.out; have := SZ18.out; have := SZ19.out; have := SA19.out; have := SZ20.out; have := SZ22.out; have := SZ23.out; have := SA23.out; have := SZ25.out; have := SZ26.out; have := SA26.out; have := SZ27.out; have := SZ31.out; have := SZ32.out; have := SZ36.out; have := SZ37.out; have := SZ38.out; have := SZ42.out; have := SZ46.out; have := SZ47.out; have := SZ48.out; have := SZ50.out; have := SZ51.out; have := SZ53.out; omega)).away U53.out (fun b hb => by have := RG53.out b hb; have := RS_22.out; have := RS_25.out; have := SZ0_0.out; have := SZ0_1.out; have := SZ0_2.out; have := SZ2.out; have := SZ3.out; have := SZ5.out; have := SZ7.out; have := SZ16.out; have := SY_u11.out; have := SY_u12.out; have := SY_u13.out; have := SY_u14.out; have := SY_u15.out; have := SY_u16.out; have := SZ18.out; have := SZ19.out; have := SA19.out; have := SZ20.out; have := SZ22.out; have := SZ23.out; have := SA23.out; have := SZ25.out; have := SZ26.out; have := SA26.out; have := SZ27.out; have := SZ31.out; have := SZ32.out; have := SZ36.out; have := SZ37.out; have := SZ38.out; have := SZ42.out; have := SZ46.out; have := SZ47.out; have := SZ48.out; have := SZ50.out; have := SZ51.out; have := SZ53.out; omega)) S3.out (by omega)).mono ?_
  rw [HK3.out]
  rintro e w55 ⟨rfl, ⟨ys55, o55, mk55⟩, u55⟩
  have OM55 := Lib.hid o55; clear o55
  have MK55 := Lib.hid mk55; clear mk55
  have U55 := Lib.hid u55; clear u55
  have RG55 := Lib.hid (rgOf U55.out)
  have v55 := v53.of_upd U55.out (fun b hb => by have := RG55.out b hb; have := SZ0_0.out; have := SZ0_1.out; have := SZ0_2.out; have := SZ2.out; have := SZ3.out; have := SZ5.out; have := SZ7.out; have := SZ16.out; have := SY_u11.out; have := SY_u12.out; have := SY_u13.out; have := SY_u14.out; have := SY_u15.out; have := SY_u16.out; have := SZ18.out; have := SZ19.out; have := SA19.out; have := SZ20.out; have := SZ22.out; have := SZ23.out; have := SA23.out; have := SZ25.out; have := SZ26.out; have := SA26.out; have := SZ27.out; have := SZ31.out; have := SZ32.out; have := SZ36.out; have := SZ37.out; have := SZ38.out; have := SZ42.out; have := SZ46.out; have := SZ47.out; have := SZ48.out; have := SZ50.out; have := SZ51.out; have := SZ53.out; omega)
  have SZ55 := Lib.hid U55.out.size
  go_wp2_with fail
  refine (markIntS_c _ _ _ xs4 k3 _ (((((((((((((O27.out.ext u31).ext u32).ext e36).ext u37).ext u38).ext e42).ext e46).ext u47).ext u48).away U50.out (fun b hb => by have := RG50.out b hb; have := RS_18.out; have := RS_27.out; have := SZ0_0.out; have := SZ0_1.out; have := SZ0_2.out; have := SZ2.out; have := SZ3.out; have := SZ5.out; have := SZ7.out; have := SZ16.out; have := SY_u11.out; have := SY_u12.out; have := SY_u13.out; have := SY_u14.out; have := SY_u15.out; have := SY_u16.out; have := SZ18.out; have := SZ19.out; have := SA19.out; have := SZ20.out; have := SZ22.out; have := SZ23.out; have := SA23.out; have := SZ25.out; have := SZ26.out; have := SA26.out; have := SZ27.out; have := SZ31.out; have := SZ32.out; have := SZ36.out; have := SZ37.out; have := SZ38.out; have := SZ42.out; have := SZ46.out; have := SZ47.out; have := SZ48.out; have := SZ50.out; have := SZ51.out; have := SZ53.out; have := SZ55.out; omega)).away U51.out (fun b hb => by have := RG51.out b hb; have := RS_20.out; have := RS_27.out; have := SZ0_0.out; have := SZ0_1.out; have := SZ0_2.out; have := SZ2.out; have := SZ3.out; have := SZ5.out; have := SZ7.out; have := SZ16.out; have := SY_u11.out; have := SY_u12.out; have := SY_u13.out; have := SY_u14.out; have := SY_u15.out; have := SY_u16.out; have := SZ18.out; have := SZ19.out; have := SA19.out; have := SZ20.out; have := SZ22.out; have := SZ23.out; have := SA23.out; have := SZ25.out; have := SZ26.out; have := SA26.out; have := SZ27.out; have := SZ31.out; have := SZ32.out; have := SZ36.out; have := SZ37.out; have := SZ38.out; have := SZ42.out; have := SZ46.out; have := SZ47.out; have := SZ48.out; have := SZ50.out; have := SZ51.out; have := SZ53.out; have := SZ55.out; omega)).away U53.out (fun b hb => by have := RG53.out b hb; have := RS_22.out; have := RS_27.out; have := SZ0_0.out; have := SZ0_1.out; have := SZ0_2.out; have := SZ2.out; have := SZ3.out; have := SZ5.out; have := SZ7.out; have := SZ16.out; have := SY_u11.out; have := SY_u12.out; have := SY_u13.out; have := SY_u14.out; have := SY_u15.out; have := SY_u16.out; have := SZ18.out; have := SZ19.out; have := SA19.out; have := SZ20.out; have := SZ22.out; have := SZ23.out; have := SA23.out; have := SZ25.out; have := SZ26.out; have := SA26.out; have := SZ27.out; have := SZ31.out; have := SZ32.out; have := SZ36.out; have := SZ37.out; have := SZ38.out; have := SZ42.out; have := SZ46.out; have := SZ47.out; have := SZ48.out; have := SZ50.out; have := SZ51.out; have := SZ53.out; have := SZ55.out; omega)).away U55.out (fun b hb => by have := RG55.out b hb; have := RS_25.out; have := RS_27.out; have := SZ0_0.out; have := SZ0_1.out; have := SZ0_2.out; have := SZ2.out; have := SZ3.out; have := SZ5.out; have := SZ7.out; have := SZ16.out; have := SY_u11.out; have := SY_u12.out; have := SY_u13.out; have := SY_u14.out; have := SY_u15.out; have := SY_u16.out; have := SZ18.out; have := SZ19.out; have := SA19.out; have := SZ20.out; have := SZ22.out; have := SZ23.out; have := SA23.out; have := SZ25.out; have := SZ26.out; have := SA26.out; have := SZ27.out; have := SZ31.out; have := SZ32.out; have := SZ36.out; have := SZ37.out; have := SZ38.out; have := SZ42.out; have := SZ46.out; have := SZ47.out; have := SZ48.out; have := SZ50.out; have := SZ51.out; have := SZ53.out; have := SZ55.out; omega)) L4.out (by omega)).mono ?_
  rw [HK4.out]
  rintro e w56 ⟨rfl, o56, u56⟩
  have OM56 := Lib.hid o56; clear o56
  have U56 := Lib.hid u56; clear u56
  have RG56 : Hid (∀ b, (xs4 ≠ [] ∧ b = blk x27) → _ ∧ b < _) := Lib.hid (fun b hb => by have := O27.out.range hb.1; rw [hb.2]; exact ⟨this.1, this.2.1⟩)
  have v56 := v55.of_upd U56.out (fun b hb => by have := RG56.out b hb; have := SZ0_0.out; have := SZ0_1.out; have := SZ0_2.out; have := SZ2.out; have := SZ3.out; have := SZ5.out; have := SZ7.out; have := SZ16.out; have := SY_u11.out; have := SY_u12.out; have := SY_u13.out; have := SY_u14.out; have := SY_u15.out; have := SY_u16.out; have := SZ18.out; have := SZ19.out; have := SA19.out; have := SZ20.out; have := SZ22.out; have := SZ23.out; have := SA23.out; have := SZ25.out; have := SZ26.out; have := SA26.out; have := SZ27.out; have := SZ31.out; have := SZ32.out; have := SZ36.out; have := SZ37.out; have := SZ38.out; have := SZ42.out; have := SZ46.out; have := SZ47.out; have := SZ48.out; have := SZ50.out; have := SZ51.out; have := SZ53.out; have := SZ55.out; omega)
  have SZ56 := Lib.hid U56.out.size
  go_wp2_with fail
  refine (eqIntS_b true _ _ V0 V0 _ (by simp) (((((((((((((O31.out.ext u32).ext e36).ext u37).ext u38).ext e42).ext e46).ext u47).ext u48).away U50.out (fun b hb => by have := RG50.out b hb; have := RS_18.out; have := RS_31.out; have := SZ0_0.out; have := SZ0_1.out; have := SZ0_2.out; have := SZ2.out; have := SZ3.out; have := SZ5.out; have := SZ7.out; have := SZ16.out; have := SY_u11.out; have := SY_u12.out; have := SY_u13.out; have := SY_u14.out; have := SY_u15.out; have := SY_u16.out; have := SZ18.out; have := SZ19.out; have := SA19.out; have := SZ20.out; have := SZ22.out; have := SZ23.out; have := SA23.out; have := SZ25.out; have := SZ26.out; have := SA26.out; have := SZ27.out; have := SZ31.out; have := SZ32.out; have := SZ36.out; have := SZ37.out; have := SZ38.out; have := SZ42.out; have := SZ46.out; have := SZ47.out; have := SZ48.out; have := SZ50.out; have := SZ51.out; have := SZ53.out; have := SZ55.out; have := SZ56.out; omega)).away U51.out (fun b hb => by have := RG51.out b hb; have := RS_20.out; have := RS_31.out; have := SZ0_0.out; have := SZ0_1.out; have := SZ0_2.out; have := SZ2.out; have := SZ3.out; have := SZ5.out; have := SZ7.out; have := SZ16.out; have := SY_u11.out; have := SY_u12.out; have := SY_u13.out; have := SY_u14.out; have := SY_u15.out; have := SY_u16.out; have := SZ18.out; have := SZ19.out; have := SA19.out; have := SZ20.out; have := SZ22.out; have := SZ23.out; have := SA23.out; have := SZ25.out; have := SZ26.out; have := SA26.out; have := SZ27.out; have := SZ31.out; have := SZ32.out; have := SZ36.out; have := SZ37.out; have := SZ38.out; have := SZ42.out; have := SZ46.out; have := SZ47.out; have := SZ48.out; have := SZ50.out; have := SZ51.out; have := SZ53.out; have := SZ55.out; have := SZ56.out; omega)).away U53.out (fun b hb => by have := RG53.out b hb; have := RS_22.out; have := RS_31.out; have := SZ0_0.out; have := SZ0_1.out; have := SZ0_2.out; have := SZ2.out; have := SZ3.out; have := SZ5.out; have := SZ7.out; have := SZ16.out; have := SY_u11.out; have := SY_u12.out; have := SY_u13.out; have := SY_u14.out; have := SY_u15.out; have := SY_u16.out; have := SZ18.out; have := SZ19.out; have := SA19.out; have := SZ20.out; have := SZ22.out; have := SZ23.out; have := SA23.out; have := SZ25.out; have := SZ26.out; have := SA26.out; have := SZ27.out; have := SZ31.out; have := SZ32.out; have := SZ36.out; have := SZ37.out; have := SZ38.out; have := SZ42.out; have := SZ46.out; have := SZ47.out; have := SZ48.out; have := SZ50.out; have := SZ51.out; have := SZ53.out; have := SZ55.out; have := SZ56.out; omega)).away U55.out (fun b hb => by have := RG55.out b hb; have := RS_25.out; have := RS_31.out; have := SZ0_0.out; have := SZ0_1.out; have := SZ0_2.out; have := SZ2.out; have := SZ3.out; have := SZ5.out; have := SZ7.out; have := SZ16.out; have := SY_u11.out; have := SY_u12.out; have := SY_u13.out; have := SY_u14.out; have := SY_u15.out; have := SY_u16.out; have := SZ18.out; have := SZ19.out; have := SA19.out; have := SZ20.out; have := SZ22.out; have := SZ23.out; have := SA23.out; have := SZ25.out; have := SZ26.out; have := SA26.out; have := SZ27.out; have := SZ31.out; have := SZ32.out; have := SZ36.out; have := SZ37.out; have := SZ38.out; have := SZ42.out; have := SZ46.out; have := SZ47.out; have := SZ48.out; have := SZ50.out; have := SZ51.out; have := SZ53.out; have := SZ55.out; have := SZ56.out; omega)).away U56.out (fun b hb => by have := RG56.out b hb; have := RS_27.out; have := RS_31.out; have := SZ0_0.out; have := SZ0_1.out; have := SZ0_2.out; have := SZ2.out; have := SZ3.out; have := SZ5.out; have := SZ7.out; have := SZ16.out; have := SY_u11.out; have := SY_u12.out; have := SY_u13.out; have := SY_u14.out; have := SY_u15.out; have := SY_u16.out; have := SZ18.out; have := SZ19.out; have := SA19.out; have := SZ20.out; have := SZ22.out; have := SZ23.out; have := SA23.out; have := SZ25.out; have := SZ26.out; have := SA26.out; have := SZ27.out; have := SZ31.out; have := SZ32.out; have := SZ36.out; have := SZ37.out; have := SZ38.out; have := SZ42.out; have := SZ46.out; have := SZ47.out; have := SZ48.out; have := SZ50.out; have := SZ51.out; have := SZ53.out; have := SZ55.out; have := SZ56.out; omega)).ints ((((((((((((((((((((((O16.out.ext u18).ext u19).ext u20).ext u22).ext u23).ext u25).ext u26).ext u27).ext u31).ext u32).ext e36).ext u37).ext u38).ext e42).ext e46).ext u47).ext u48).away U50.out (fun b hb => by have := RG50.out b hb; have := RS_18.out; have := RS_16.out; have := SZ0_0.out; have := SZ0_1.out; have := SZ0_2.out; have := SZ2.out; have := SZ3.out; have := SZ5.out; have := SZ7.out; have := SZ16.out; have := SY_u11.out; have := SY_u12.out; have := SY_u13.out; have := SY_u14.out; have := SY_u15.out; have := SY_u16.out; have := SZ18.out; have := SZ19.out; have := SA19.out; have := SZ20.out; have := SZ22.out; have := SZ23.out; have := SA23.out; have := SZ25.out; have := SZ26.out; have := SA26.out; have := SZ27.out; have := SZ31.out; have := SZ32.out; have := SZ36.out; have := SZ37.out; have := SZ38.out; have := SZ42.out; have := SZ46.out; have := SZ47.out; have := SZ48.out; have := SZ50.out; have := SZ51.out; have := SZ53.out; have := SZ55.out; have := SZ56.out; omega)).away U51.out (fun b hb => by have := RG51.out b hb; have := RS_20.out; have := RS_16.out; have := SZ0_0.out; have := SZ0_1.out; have := SZ0_2.out; have := SZ2.out; have := SZ3.out; have := SZ5.out; have := SZ7.out; have := SZ16.out; have := SY_u11.out; have := SY_u12.out; have := SY_u13.out; have := SY_u14.out; have := SY_u15.out; have := SY_u16.out; have := SZ18.out; have := SZ19.out; have := SA19.out; have := SZ20.out; have := SZ22.out; have := SZ23.out; have := SA23.out; have := SZ25.out; have := SZ26.out; have := SA26.out; have := SZ27.out; have := SZ31.out; have := SZ32.out; have := SZ36.out; have := SZ37.out; have := SZ38.out; have := SZ42.out; have := SZ46.out; have := SZ47.out; have := SZ48.out; have := SZ50.out; have := SZ51.out; have := SZ53.out; have := SZ55.out; have := SZ56.out; omega)).away U53.out (fun b hb => by have := RG53.out b hb; have := RS_22.out; have := RS_16.out; have := SZ0_0.out; have := SZ0_1.out; have := SZ0_2.out; have := SZ2.out; have := SZ3.out; have := SZ5.out; have := SZ7.out; have := SZ16.out; have := SY_u11.out; have := SY_u12.out; have := SY_u13.out; have := SY_u14.out; have := SY_u15.out; have := SY_u16.out; have := SZ18.out; have := SZ19.out; have := SA19.out; have := SZ20.out; have := SZ22.out; have := SZ23.out; have := SA23.out; have := SZ25.out; have := SZ26.out; have := SA26.out; have := SZ27.out; have := SZ31.out; have := SZ32.out; have := SZ36.out; have := SZ37.out; have := SZ38.out; have := SZ42.out; have := SZ46.out; have := SZ47.out; have := SZ48.out; have := SZ50.out; have := SZ51.out; have := SZ53.out; have := SZ55.out; have := SZ56.out; omega)).away U55.out (fun b hb => by have := RG55.out b hb; have := RS_25.out; have := RS_16.out; have := SZ0_0.out; have := SZ0_1.out; have := SZ0_2.out; have := SZ2.out; have := SZ3.out; have := SZ5.out; have := SZ7.out; have := SZ16.out; have := SY_u11.out; have := SY_u12.out; have := SY_u13.out; have := SY_u14.out; have := SY_u15.out; have := SY_u16.out; have := SZ18.out; have := SZ19.out; have := SA19.out; have := SZ20.out; have := SZ22.out; have := SZ23.out; have := SA23.out; have := SZ25.out; have := SZ26.out; have := SA26.out; have := SZ27.out; have := SZ31.out; have := SZ32.out; have := SZ36.out; have := SZ37.out; have := SZ38.out; have := SZ42.out; have := SZ46.out; have := SZ47.out; have := SZ48.out; have := SZ50.out; have := SZ51.out; have := SZ53.out; have := SZ55.out; have := SZ56.out; omega)).away U56.out (fun b hb => by have := RG56.out b hb; have := RS_27.out; have := RS_16.out; have := SZ0_0.out; have := SZ0_1.out; have := SZ0_2.out; have := SZ2.out; have := SZ3.out; have := SZ5.out; have := SZ7.out; have := SZ16.out; have := SY_u11.out; have := SY_u12.out; have := SY_u13.out; have := SY_u14.out; have := SY_u15.out; have := SY_u16.out; have := SZ18.out; have := SZ19.out; have := SA19.out; have := SZ20.out; have := SZ22.out; have := SZ23.out; have := SA23.out; have := SZ25.out; have := SZ26.out; have := SA26.out; have := SZ27.out; have := SZ31.out; have := SZ32.out; have := SZ36.out; have := SZ37.out; have := SZ38.out; have := SZ42.out; have := SZ46.out; have := SZ47.out; have := SZ48.out; have := SZ50.out; have := SZ51.out; have := SZ53.out; have := SZ55.out; have := SZ56.out; omega)).ints).mono ?_
  rintro e w57 ⟨rfl, d57⟩
  have u57 := Drew.ext d57
  have v57 := v56.trans u57
  have SZ57 := Lib.hid u57.size
  go_wp2_with fail
  refine (markIntS_c _ _ _ V0 1 _ ((((((((((((((O31.out.ext u32).ext e36).ext u37).ext u38).ext e42).ext e46).ext u47).ext u48).away U50.out (fun b hb => by have := RG50.out b hb; have := RS_18.out; have := RS_31.out; have := SZ0_0.out; have := SZ0_1.out; have := SZ0_2.out; have := SZ2.out; have := SZ3.out; have := SZ5.out; have := SZ7.out; have := SZ16.out; have := SY_u11.out; have := SY_u12.out; have := SY_u13.out; have := SY_u14.out; have := SY_u15.out; have := SY_u16.out; have := SZ18.out; have := SZ19.out; have := SA19.out; have := SZ20.out; have := SZ22.out; have := SZ23.out; have := SA23.out; have := SZ25.out; have := SZ26.out; have := SA26.out; have := SZ27.out; have := SZ31.out; have := SZ32.out; have := SZ36.out; have := SZ37.out; have := SZ38.out; have := SZ42.out; have := SZ46.out; have := SZ47.out; have := SZ48.out; have := SZ50.out; have := SZ51.out; have := SZ53.out; have := SZ55.out; have := SZ56.out; have := SZ57.out; omega)).away U51.out (fun b hb => by have := RG51.out b hb; have := RS_20.out; have := RS_31.out; have := SZ0_0.out; have := SZ0_1.out; have := SZ0_2.out; have := SZ2.out; have := SZ3.out; have := SZ5.out; have := SZ7.out; have := SZ16.out; have := SY_u11.out; have := SY_u12.out; have := SY_u13.out; have := SY_u14.out; have := SY_u15.out; have := SY_u16.out; have := SZ18.out; have := SZ19.out; have := SA19.out; have := SZ20.out; have := SZ22.out; have := SZ23.out; have := SA23.out; have := SZ25.out; have := SZ26.out; have := SA26.out; have := SZ27.out; have := SZ31.out; have := SZ32.out; have := SZ36.out; have := SZ37.out; have := SZ38.out; have := SZ42.out; have := SZ46.out; have := SZ47.out; have := SZ48.out; have := SZ50.out; have := SZ51.out; have := SZ53.out; have := SZ55.out; have := SZ56.out; have := SZ57.out; omega)).away U53.out (fun b hb => by have := RG53.out b hb; have := RS_22.out; have := RS_31.out; have := SZ0_0.out; have := SZ0_1.out; have := SZ0_2.out; have := SZ2.out; have := SZ3.out; have := SZ5.out; have := SZ7.out; have := SZ16.out; have := SY_u11.out; have := SY_u12.out; have := SY_u13.out; have := SY_u14.out; have := SY_u15.out; have := SY_u16.out; have := SZ18.out; have := SZ19.out; have := SA19.out; have := SZ20.out; have := SZ22.out; have := SZ23.out; have := SA23.out; have := SZ25.out; have := SZ26.out; have := SA26.out; have := SZ27.out; have := SZ31.out; have := SZ32.out; have := SZ36.out; have := SZ37.out; have := SZ38.out; have := SZ42.out; have := SZ46.out; have := SZ47.out; have := SZ48.out; have := SZ50.out; have := SZ51.out; have := SZ53.out; have := SZ55.out; have := SZ56.out; have := SZ57.out; omega)).away U55.out (fun b hb => by have := RG55.out b hb; have := RS_25.out; have := RS_31.out; have := SZ0_0.out; have := SZ0_1.out; have := SZ0_2.out; have := SZ2.out; have := SZ3.out; have := SZ5.out; have := SZ7.out; have := SZ16.out; have := SY_u11.out; have := SY_u12.out; have := SY_u13.out; have := SY_u14.out; have := SY_u15.out; have := SY_u16.out; have := SZ18.out; have := SZ19.out; have := SA19.out; have := SZ20.out; have := SZ22.out; have := SZ23.out; have := SA23.out; have := SZ25.out; have := SZ26.out; have := SA26.out; have := SZ27.out; have := SZ31.out; have := SZ32.out; have := SZ36.out; have := SZ37.out; have := SZ38.out; have := SZ42.out; have := SZ46.out; have := SZ47.out; have := SZ48.out; have := SZ50.out; have := SZ51.out; have := SZ53.out; have := SZ55.out; have := SZ56.out; have := SZ57.out; omega)).away U56.out (fun b hb => by have := RG56.out b hb; have := RS_27.out; have := RS_31.out; have := SZ0_0.out; have := SZ0_1.out; have := SZ0_2.out; have := SZ2.out; have := SZ3.out; have := SZ5.out; have := SZ7.out; have := SZ16.out; have := SY_u11.out; have := SY_u12.out; have := SY_u13.out; have := SY_u14.out; have := SY_u15.out; have := SY_u16.out; have := SZ18.out; have := SZ19.out; have := SA19.out; have := SZ20.out; have := SZ22.out; have := SZ23.out; have := SA23.out; have := SZ25.out; have := SZ26.out; have := SA26.out; have := SZ27.out; have := SZ31.out; have := SZ32.out; have := SZ36.out; have := SZ37.out; have := SZ38.out; have := SZ42.out; have := SZ46.out; have := SZ47.out; have := SZ48.out; have := SZ50.out; have := SZ51.out; have := SZ53.out; have := SZ55.out; have := SZ56.out; have := SZ57.out; omega)).ext u57) RS0.out (by omega)).mono ?_
  rw [HM0.out]
  rintro e w58 ⟨rfl, o58, u58⟩
  have OM58 := Lib.hid o58; clear o58
  have U58 := Lib.hid u58; clear u58
  have RG58 : Hid (∀ b, (V0 ≠ [] ∧ b = blk x31) → _ ∧ b < _) := Lib.hid (fun b hb => by have := O31.out.range hb.1; rw [hb.2]; exact ⟨this.1, this.2.1⟩)
  have v58 := v57.of_upd U58.out (fun b hb => by have := RG58.out b hb; have := SZ0_0.out; have := SZ0_1.out; have := SZ0_2.out; have := SZ2.out; have := SZ3.out; have := SZ5.out; have := SZ7.out; have := SZ16.out; have := SY_u11.out; have := SY_u12.out; have := SY_u13.out; have := SY_u14.out; have := SY_u15.out; have := SY_u16.out; have := SZ18.out; have := SZ19.out; have := SA19.out; have := SZ20.out; have := SZ22.out; have := SZ23.out; have := SA23.out; have := SZ25.out; have := SZ26.out; have := SA26.out; have := SZ27.out; have := SZ31.out; have := SZ32.out; have := SZ36.out; have := SZ37.out; have := SZ38.out; have := SZ42.out; have := SZ46.out; have := SZ47.out; have := SZ48.out; have := SZ50.out; have := SZ51.out; have := SZ53.out; have := SZ55.out; have := SZ56.out; have := SZ57.out; omega)
  have SZ58 := Lib.hid U58.out.size
  go_wp2_with fail
  refine (heldIntS_c _ V0.length 1 _ OM58.out.ints RS0.out (by omega)).mono ?_
  rw [HM0.out]
  rintro e w58 ⟨rfl, rfl⟩
  have bx60 := (((((((((((((((((((((((((((((ba0.ext u2).ext u3).ext u5).ext u7).ext e16).ext u18).ext u19).ext u20).ext u22).ext u23).ext u25).ext u26).ext u27).ext u31).ext u32).ext e36).ext u37).ext u38).ext e42).ext e46).ext u47).ext u48).upd U50.out (fun hb => by have := RG50.out _ hb; have := RS_18.out; have := SZ0_0.out; have := SZ0_1.out; have := SZ0_2.out; have := SZ2.out; have := SZ3.out; have := SZ5.out; have := SZ7.out; have := SZ16.out; have := SY_u11.out; have := SY_u12.out; have := SY_u13.out; have := SY_u14.out; have := SY_u15.out; have := SY_u16.out; have := SZ18.out; have := SZ19.out; have := SA19.out; have := SZ20.out; have := SZ22.out; have := SZ23.out; have := SA23.out; have := SZ25.out; have := SZ26.out; have := SA26.out; have := SZ27.out; have := SZ31.out; have := SZ32.out; have := SZ36.out; have := SZ37.out; have := SZ38.out; have := SZ42.out; have := SZ46.out; have := SZ47.out; have := SZ48.out; have := SZ50.out; have := SZ51.out; have := SZ53.out; have := SZ55.out; have := SZ56.out; have := SZ57.out; have := SZ58.out; omega)).upd U51.out (fun hb => by have := RG51.out _ hb; have := RS_20.out; have := SZ0_0.out; have := SZ0_1.out; have := SZ0_2.out; have := SZ2.out; have := SZ3.out; have := SZ5.out; have := SZ7.out; have := SZ16.out; have := SY_u11.out; have := SY_u12.out; have := SY_u13.out; have := SY_u14.out; have := SY_u15.out; have := SY_u16.out; have := SZ18.out; have := SZ19.out; have := SA19.out; have := SZ20.out; have := SZ22.out; have := SZ23.out; have := SA23.out; have := SZ25.out; have := SZ26.out; have := SA26.out; have := SZ27.out; have := SZ31.out; have := SZ32.out; have := SZ36.out; have := SZ37.out; have := SZ38.out; have := SZ42.out; have := SZ46.out; have := SZ47.out; have := SZ48.out; have := SZ50.out; have := SZ51.out; have := SZ53.out; have := SZ55.out; have := SZ56.out; have := SZ57.out; have := SZ58.out; omega)).upd U53.out (fun hb => by have := RG53.out _ hb; have := RS_22.out; have := SZ0_0.out; have := SZ0_1.out; have := SZ0_2.out; have := SZ2.out; have := SZ3.out; have := SZ5.out; have := SZ7.out; have := SZ16.out; have := SY_u11.out; have := SY_u12.out; have := SY_u13.out; have := SY_u14.out; have := SY_u15.out; have := SY_u16.out; have := SZ18.out; have := SZ19.out; have := SA19.out; have := SZ20.out; have := SZ22.out; have := SZ23.out; have := SA23.out; have := SZ25.out; have := SZ26.out; have := SA26.out; have := SZ27.out; have := SZ31.out; have := SZ32.out; have := SZ36.out; have := SZ37.out; have := SZ38.out; have := SZ42.out; have := SZ46.out; have := SZ47.out; have := SZ48.out; have := SZ50.out; have := SZ51.out; have := SZ53.out; have := SZ55.out; have := SZ56.out; have := SZ57.out; have := SZ58.out; omega)).upd U55.out (fun hb => by have := RG55.out _ hb; have := RS_25.out; have := SZ0_0.out; have := SZ0_1.out; have := SZ0_2.out; have := SZ2.out; have := SZ3.out; have := SZ5.out; have := SZ7.out; have := SZ16.out; have := SY_u11.out; have := SY_u12.out; have := SY_u13.out; have := SY_u14.out; have := SY_u15.out; have := SY_u16.out; have := SZ18.out; have := SZ19.out; have := SA19.out; have := SZ20.out; have := SZ22.out; have := SZ23.out; have := SA23.out; have := SZ25.out; have := SZ26.out; have := SA26.out; have := SZ27.out; have := SZ31.out; have := SZ32.out; have := SZ36.out; have := SZ37.out; have := SZ38.out; have := SZ42.out; have := SZ46.out; have := SZ47.out; have := SZ48.out; have := SZ50.out; have := SZ51.out; have := SZ53.out; have := SZ55.out; have := SZ56.out; have := SZ57.out; have := SZ58.out; omega)).upd U56.out (fun hb => by have := RG56.out _ hb; have := RS_27.out; have := SZ0_0.out; have := SZ0_1.out; have := SZ0_2.out; have := SZ2.out; have := SZ3.out; have := SZ5.out; have := SZ7.out; have := SZ16.out; have := SY_u11.out; have := SY_u12.out; have := SY_u13.out; have := SY_u14.out; have := SY_u15.out; have := SY_u16.out; have := SZ18.out; have := SZ19.out; have := SA19.out; have := SZ20.out; have := SZ22.out; have := SZ23.out; have := SA23.out; have := SZ25.out; have := SZ26.out; have := SA26.out; have := SZ27.out; have := SZ31.out; have := SZ32.out; have := SZ36.out; have := SZ37.out; have := SZ38.out; have := SZ42.out; have := SZ46.out; have := SZ47.out; have := SZ48.out; have := SZ50.out; have := SZ51.out; have := SZ53.out; have := SZ55.out; have := SZ56.out; have := SZ57.out; have := SZ58.out; omega)).ext u57).upd U58.out (fun hb => by have := RG58.out _ hb; have := RS_31.out; have := SZ0_0.out; have := SZ0_1.out; have := SZ0_2.out; have := SZ2.out; have := SZ3.out; have := SZ5.out; have := SZ7.out; have := SZ16.out; have := SY_u11.out; have := SY_u12.out; have := SY_u13.out; have := SY_u14.out; have := SY_u15.out; have := SY_u16.out; have := SZ18.out; have := SZ19.out; have := SA19.out; have := SZ20.out; have := SZ22.out; have := SZ23.out; have := SA23.out; have := SZ25.out; have := SZ26.out; have := SA26.out; have := SZ27.out; have := SZ31.out; have := SZ32.out; have := SZ36.out; have := SZ37.out; have := SZ38.out; have := SZ42.out; have := SZ46.out; have := SZ47.out; have := SZ48.out; have := SZ50.out; have := SZ51.out; have := SZ53.out; have := SZ55.out; have := SZ56.out; have := SZ57.out; have := SZ58.out; omega))
  have cx60_0 := bx60.cell 0 (by simp)
  have bx61 := (((((((((((((((((((((((((((((ba2.ext u2).ext u3).ext u5).ext u7).ext e16).ext u18).ext u19).ext u20).ext u22).ext u23).ext u25).ext u26).ext u27).ext u31).ext u32).ext e36).ext u37).ext u38).ext e42).ext e46).ext u47).ext u48).upd U50.out (fun hb => by have := RG50.out _ hb; have := RS_18.out; have := SZ0_0.out; have := SZ0_1.out; have := SZ0_2.out; have := SZ2.out; have := SZ3.out; have := SZ5.out; have := SZ7.out; have := SZ16.out; have := SY_u11.out; have := SY_u12.out; have := SY_u13.out; have := SY_u14.out; have := SY_u15.out; have := SY_u16.out; have := SZ18.out; have := SZ19.out; have := SA19.out; have := SZ20.out; have := SZ22.out; have := SZ23.out; have := SA23.out; have := SZ25.out; have := SZ26.out; have := SA26.out; have := SZ27.out; have := SZ31.out; have := SZ32.out; have := SZ36.out; have := SZ37.out; have := SZ38.out; have := SZ42.out; have := SZ46.out; have := SZ47.out; have := SZ48.out; have := SZ50.out; have := SZ51.out; have := SZ53.out; have := SZ55.out; have := SZ56.out; have := SZ57.out; have := SZ58.out; omega)).upd U51.out (fun hb => by have := RG51.out _ hb; have := RS_20.out; have := SZ0_0.out; have := SZ0_1.out; have := SZ0_2.out; have := SZ2.out; have := SZ3.out; have := SZ5.out; have := SZ7.out; have := SZ16.out; have := SY_u11.out; have := SY_u12.out; have := SY_u13.out; have := SY_u14.out; have := SY_u15.out; have := SY_u16.out; have := SZ18.out; have := SZ19.out; have := SA19.out; have := SZ20.out; have := SZ22.out; have := SZ23.out; have := SA23.out; have := SZ25.out; have := SZ26.out; have := SA26.out; have := SZ27.out; have := SZ31.out; have := SZ32.out; have := SZ36.out; have := SZ37.out; have := SZ38.out; have := SZ42.out; have := SZ46.out; have := SZ47.out; have := SZ48.out; have := SZ50.out; have := SZ51.out; have := SZ53.out; have := SZ55.out; have := SZ56.out; have := SZ57.out; have := SZ58.out; omega)).upd U53.out (fun hb => by have := RG53.out _ hb; have := RS_22.out; have := SZ0_0.out; have := SZ0_1.out; have := SZ0_2.out; have := SZ2.out; have := SZ3.out; have := SZ5.out; have := SZ7.out; have := SZ16.out; have := SY_u11.out; have := SY_u12.out; have := SY_u13.out; have := SY_u14.out; have := SY_u15.out; have := SY_u16.out; have := SZ18.out; have := SZ19.out; have := SA19.out; have := SZ20.out; have := SZ22.out; have := SZ23.out; have := SA23.out; have := SZ25.out; have := SZ26.out; have := SA26.out; have := SZ27.out; have := SZ31.out; have := SZ32.out; have := SZ36.out; have := SZ37.out; have := SZ38.out; have := SZ42.out; have := SZ46.out; have := SZ47.out; have := SZ48.out; have := SZ50.out; have := SZ51.out; have := SZ53.out; have := SZ55.out; have := SZ56.out; have := SZ57.out; have := SZ58.out; omega)).upd U55.out (fun hb => by have := RG55.out _ hb; have := RS_25.out; have := SZ0_0.out; have := SZ0_1.out; have := SZ0_2.out; have := SZ2.out; have := SZ3.out; have := SZ5.out; have := SZ7.out; have := SZ16.out; have := SY_u11.out; have := SY_u12.out; have := SY_u13.out; have := SY_u14.out; have := SY_u15.out; have := SY_u16.out; have := SZ18.out; have := SZ19.out; have := SA19.out; have := SZ20.out; have := SZ22.out; have := SZ23.out; have := SA23.out; have := SZ25.out; have := SZ26.out; have := SA26.out; have := SZ27.out; have := SZ31.out; have := SZ32.out; have := SZ36.out; have := SZ37.out; have := SZ38.out; have := SZ42.out; have := SZ46.out; have := SZ47.out; have := SZ48.out; have := SZ50.out; have := SZ51.out; have := SZ53.out; have := SZ55.out; have := SZ56.out; have := SZ57.out; have := SZ58.out; omega)).upd U56.out (fun hb => by have := RG56.out _ hb; have := RS_27.out; have := SZ0_0.out; have := SZ0_1.out; have := SZ0_2.out; have := SZ2.out; have := SZ3.out; have := SZ5.out; have := SZ7.out; have := SZ16.out; have := SY_u11.out; have := SY_u12.out; have := SY_u13.out; have := SY_u14.out; have := SY_u15.out; have := SY_u16.out; have := SZ18.out; have := SZ19.out; have := SA19.out; have := SZ20.out; have := SZ22.out; have := SZ23.out; have := SA23.out; have := SZ25.out; have := SZ26.out; have := SA26.out; have := SZ27.out; have := SZ31.out; have := SZ32.out; have := SZ36.out; have := SZ37.out; have := SZ38.out; have := SZ42.out; have := SZ46.out; have := SZ47.out; have := SZ48.out; have := SZ50.out; have := SZ51.out; have := SZ53.out; have := SZ55.out; have := SZ56.out; have := SZ57.out; have := SZ58.out; omega)).ext u57).upd U58.out (fun hb => by have := RG58.out _ hb; have := RS_31.out; have := SZ0_0.out; have := SZ0_1.out; have := SZ0_2.out; have := SZ2.out; have := SZ3.out; have := SZ5.out; have := SZ7.out; have := SZ16.out; have := SY_u11.out; have := SY_u12.out; have := SY_u13.out; have := SY_u14.out; have := SY_u15.out; have := SY_u16.out; have := SZ18.out; have := SZ19.out; have := SA19.out; have := SZ20.out; have := SZ22.out; have := SZ23.out; have := SA23.out; have := SZ25.out; have := SZ26.out; have := SA26.out; have := SZ27.out; have := SZ31.out; have := SZ32.out; have := SZ36.out; have := SZ37.out; have := SZ38.out; have := SZ42.out; have := SZ46.out; have := SZ47.out; have := SZ48.out; have := SZ50.out; have := SZ51.out; have := SZ53.out; have := SZ55.out; have := SZ56.out; have := SZ57.out; have := SZ58.out; omega))
  have cx61_0 := bx61.cell 0 (by simp)
  have cx61_1 := bx61.cell 1 (by simp)
  have cx61_2 := bx61.cell 2 (by simp)
  have cx61_3 := bx61.cell 3 (by simp)
  have bx62 := (((((((((((((((((((((((((((((ba3.ext u2).ext u3).ext u5).ext u7).ext e16).ext u18).ext u19).ext u20).ext u22).ext u23).ext u25).ext u26).ext u27).ext u31).ext u32).ext e36).ext u37).ext u38).ext e42).ext e46).ext u47).ext u48).upd U50.out (fun hb => by have := RG50.out _ hb; have := RS_18.out; have := SZ0_0.out; have := SZ0_1.out; have := SZ0_2.out; have := SZ2.out; have := SZ3.out; have := SZ5.out; have := SZ7.out; have := SZ16.out; have := SY_u11.out; have := SY_u12.out; have := SY_u13.out; have := SY_u14.out; have := SY_u15.out; have := SY_u16.out; have := SZ18.out; have := SZ19.out; have := SA19.out; have := SZ20.out; have := SZ22.out; have := SZ23.out; have := SA23.out; have := SZ25.out; have := SZ26.out; have := SA26.out; have := SZ27.out; have := SZ31.out; have := SZ32.out; have := SZ36.out; have := SZ37.out; have := SZ38.out; have := SZ42.out; have := SZ46.out; have := SZ47.out; have := SZ48.out; have := SZ50.out; have := SZ51.out; have := SZ53.out; have := SZ55.out; have := SZ56.out; have := SZ57.out; have := SZ58.out; omega)).upd U51.out (fun hb => by have := RG51.out _ hb; have := RS_20.out; have := SZ0_0.out; have := SZ0_1.out; have := SZ0_2.out; have := SZ2.out; have := SZ3.out; have := SZ5.out; have := SZ7.out; have := SZ16.out; have := SY_u11.out; have := SY_u12.out; have := SY_u13.out; have := SY_u14.out; have := SY_u15.out; have := SY_u16.out; have := SZ18.out; have := SZ19.out; have := SA19.out; have := SZ20.out; have := SZ22.out; have := SZ23.out; have := SA23.out; have := SZ25.out; have := SZ26.out; have := SA26.out; have := SZ27.out; have := SZ31.out; have := SZ32.out; have := SZ36.out; have := SZ37.out; have := SZ38.out; have := SZ42.out; have := SZ46.out; have := SZ47.out; have := SZ48.out; have := SZ50.out; have := SZ51.out; have := SZ53.out; have := SZ55.out; have := SZ56.out; have := SZ57.out; have := SZ58.out; omega)).upd U53.out (fun hb => by have := RG53.out _ hb; have := RS_22.out; have := SZ0_0.out; have := SZ0_1.out; have := SZ0_2.out; have := SZ2.out; have := SZ3.out; have := SZ5.out; have := SZ7.out; have := SZ16.out; have := SY_u11.out; have := SY_u12.out; have := SY_u13.out; have := SY_u14.out; have := SY_u15.out; have := SY_u16.out; have := SZ18.out; have := SZ19.out; have := SA19.out; have := SZ20.out; have := SZ22.out; have := SZ23.out; have := SA23.out; have := SZ25.out; have := SZ26.out; have := SA26.out; have := SZ27.out; have := SZ31.out; have := SZ32.out; have := SZ36.out; have := SZ37.out; have := SZ38.out; have := SZ42.out; have := SZ46.out; have := SZ47.out; have := SZ48.out; have := SZ50.out; have := SZ51.out; have := SZ53.out; have := SZ55.out; have := SZ56.out; have := SZ57.out; have := SZ58.out; omega)).upd U55.out (fun hb => by have := RG55.out _ hb; have := RS_25.out; have := SZ0_0.out; have := SZ0_1.out; have := SZ0_2.out; have := SZ2.out; have := SZ3.out; have := SZ5.out; have := SZ7.out; have := SZ16.out; have := SY_u11.out; have := SY_u12.out; have := SY_u13.out; have := SY_u14.out; have := SY_u15.out; have := SY_u16.out; have := SZ18.out; have := SZ19.out; have := SA19.out; have := SZ20.out; have := SZ22.out; have := SZ23.out; have := SA23.out; have := SZ25.out; have := SZ26.out; have := SA26.out; have := SZ27.out; have := SZ31.out; have := SZ32.out; have := SZ36.out; have := SZ37.out; have := SZ38.out; have := SZ42.out; have := SZ46.out; have := SZ47.out; have := SZ48.out; have := SZ50.out; have := SZ51.out; have := SZ53.out; have := SZ55.out; have := SZ56.out; have := SZ57.out; have := SZ58.out; omega)).upd U56.out (fun hb => by have := RG56.out _ hb; have := RS_27.out; have := SZ0_0.out; have := SZ0_1.out; have := SZ0_2.out; have := SZ2.out; have := SZ3.out; have := SZ5.out; have := SZ7.out; have := SZ16.out; have := SY_u11.out; have := SY_u12.out; have := SY_u13.out; have := SY_u14.out; have := SY_u15.out; have := SY_u16.out; have := SZ18.out; have := SZ19.out; have := SA19.out; have := SZ20.out; have := SZ22.out; have := SZ23.out; have := SA23.out; have := SZ25.out; have := SZ26.out; have := SA26.out; have := SZ27.out; have := SZ31.out; have := SZ32.out; have := SZ36.out; have := SZ37.out; have := SZ38.out; have := SZ42.out; have := SZ46.out; have := SZ47.out; have := SZ48.out; have := SZ50.out; have := SZ51.out; have := SZ53.out; have := SZ55.out; have := SZ56.out; have := SZ57.out; have := SZ58.out; omega)).ext u57).upd U58.out (fun hb => by have := RG58.out _ hb; have := RS_31.out; have := SZ0_0.out; have := SZ0_1.out; have := SZ0_2.out; have := SZ2.out; have := SZ3.out; have := SZ5.out; have := SZ7.out; have := SZ16.out; have := SY_u11.out; have := SY_u12.out; have := SY_u13.out; have := SY_u14.out; have := SY_u15.out; have := SY_u16.out; have := SZ18.out; have := SZ19.out; have := SA19.out; have := SZ20.out; have := SZ22.out; have := SZ23.out; have := SA23.out; have := SZ25.out; have := SZ26.out; have := SA26.out; have := SZ27.out; have := SZ31.out; have := SZ32.out; have := SZ36.out; have := SZ37.out; have := SZ38.out; have := SZ42.out; have := SZ46.out; have := SZ47.out; have := SZ48.out; have := SZ50.out; have := SZ51.out; have := SZ53.out; have := SZ55.out; have := SZ56.out; have := SZ57.out; have := SZ58.out; omega))
  have cx62_0 := bx62.cell 0 (by simp)
  have cx62_1 := bx62.cell 1 (by simp)
  have cx62_2 := bx62.cell 2 (by simp)
  have cx62_3 := bx62.cell 3 (by simp)
  go_wp2_with fail
  go_region_held3 (fun w' => w'.cell? ⟨w.heap.size, 0, none⟩ = some (.slice ao0_0 xs0.par.length cap0_0) ∧ w'.cell? ⟨w.heap.size + 1, 0, none⟩ = some (.int .i64 xs2.level) ∧ w'.cell? ⟨w.heap.size + 1, 1, none⟩ = some (.slice ao2_1 xs2.vars.length cap2_1) ∧ w'.cell? ⟨w.heap.size + 1, 2, none⟩ = some (.slice ao2_2 xs2.cond.length cap2_2) ∧ w'.cell? ⟨w.heap.size + 1, 3, none⟩ = some (.int .i64 xs2.sum) ∧ w'.cell? ⟨w.heap.size + 2, 0, none⟩ = some (.int .i64 xs3.level) ∧ w'.cell? ⟨w.heap.size + 2, 1, none⟩ = some (.slice ao3_1 xs3.vars.length cap3_1) ∧ w'.cell? ⟨w.heap.size + 2, 2, none⟩ = some (.slice ao3_2 xs3.cond.length cap3_2) ∧ w'.cell? ⟨w.heap.size + 2, 3, none⟩ = some (.int .i64 xs3.sum))
    (first | exact ⟨Ext.cell u68 (Ext.cell u67 (Ext.cell u66 (Ext.cell u65 (Ext.cell u64 (Ext.cell u63 (cx60_0)))))), Ext.cell u68 (Ext.cell u67 (Ext.cell u66 (Ext.cell u65 (Ext.cell u64 (Ext.cell u63 (cx61_0)))))), Ext.cell u68 (Ext.cell u67 (Ext.cell u66 (Ext.cell u65 (Ext.cell u64 (Ext.cell u63 (cx61_1)))))), Ext.cell u68 (Ext.cell u67 (Ext.cell u66 (Ext.cell u65 (Ext.cell u64 (Ext.cell u63 (cx61_2)))))), Ext.cell u68 (Ext.cell u67 (Ext.cell u66 (Ext.cell u65 (Ext.cell u64 (Ext.cell u63 (cx61_3)))))), Ext.cell u68 (Ext.cell u67 (Ext.cell u66 (Ext.cell u65 (Ext.cell u64 (Ext.cell u63 (cx62_0)))))), Ext.cell u68 (Ext.cell u67 (Ext.cell u66 (Ext.cell u65 (Ext.cell u64 (Ext.cell u63 (cx62_1)))))), Ext.cell u68 (Ext.cell u67 (Ext.cell u66 (Ext.cell u65 (Ext.cell u64 (Ext.cell u63 (cx62_2)))))), Ext.cell u68 (Ext.cell u67 (Ext.cell u66 (Ext.cell u65 (Ext.cell u64 (Ext.cell u63 (cx62_3))))))⟩ | exact ⟨Ext.cell u67 (Ext.cell u66 (Ext.cell u65 (Ext.cell u64 (Ext.cell u63 (cx60_0))))), Ext.cell u67 (Ext.cell u66 (Ext.cell u65 (Ext.cell u64 (Ext.cell u63 (cx61_0))))), Ext.cell u67 (Ext.cell u66 (Ext.cell u65 (Ext.cell u64 (Ext.cell u63 (cx61_1))))), Ext.cell u67 (Ext.cell u66 (Ext.cell u65 (Ext.cell u64 (Ext.cell u63 (cx61_2))))), Ext.cell u67 (Ext.cell u66 (Ext.cell u65 (Ext.cell u64 (Ext.cell u63 (cx61_3))))), Ext.cell u67 (Ext.cell u66 (Ext.cell u65 (Ext.cell u64 (Ext.cell u63 (cx62_0))))), Ext.cell u67 (Ext.cell u66 (Ext.cell u65 (Ext.cell u64 (Ext.cell u63 (cx62_1))))), Ext.cell u67 (Ext.cell u66 (Ext.cell u65 (Ext.cell u64 (Ext.cell u63 (cx62_2))))), Ext.cell u67 (Ext.cell u66 (Ext.cell u65 (Ext.cell u64 (Ext.cell u63 (cx62_3)))))⟩ | exact ⟨Ext.cell u66 (Ext.cell u65 (Ext.cell u64 (Ext.cell u63 (cx60_0)))), Ext.cell u66 (Ext.cell u65 (Ext.cell u64 (Ext.cell u63 (cx61_0)))), Ext.cell u66 (Ext.cell u65 (Ext.cell u64 (Ext.cell u63 (cx61_1)))), Ext.cell u66 (Ext.cell u65 (Ext.cell u64 (Ext.cell u63 (cx61_2)))), Ext.cell u66 (Ext.cell u65 (Ext.cell u64 (Ext.cell u63 (cx61_3)))), Ext.cell u66 (Ext.cell u65 (Ext.cell u64 (Ext.cell u63 (cx62_0)))), Ext.cell u66 (Ext.cell u65 (Ext.cell u64 (Ext.cell u63 (cx62_1)))), Ext.cell u66 (Ext.cell u65 (Ext.cell u64 (Ext.cell u63 (cx62_2)))), Ext.cell u66 (Ext.cell u65 (Ext.cell u64 (Ext.cell u63 (cx62_3))))⟩ | exact ⟨Ext.cell u65 (Ext.cell u64 (Ext.cell u63 (cx60_0))), Ext.cell u65 (Ext.cell u64 (Ext.cell u63 (cx61_0))), Ext.cell u65 (Ext.cell u64 (Ext.cell u63 (cx61_1))), Ext.cell u65 (Ext.cell u64 (Ext.cell u63 (cx61_2))), Ext.cell u65 (Ext.cell u64 (Ext.cell u63 (cx61_3))), Ext.cell u65 (Ext.cell u64 (Ext.cell u63 (cx62_0))), Ext.cell u65 (Ext.cell u64 (Ext.cell u63 (cx62_1))), Ext.cell u65 (Ext.cell u64 (Ext.cell u63 (cx62_2))), Ext.cell u65 (Ext.cell u64 (Ext.cell u63 (cx62_3)))⟩ | exact ⟨Ext.cell u64 (Ext.cell u63 (cx60_0)), Ext.cell u64 (Ext.cell u63 (cx61_0)), Ext.cell u64 (Ext.cell u63 (cx61_1)), Ext.cell u64 (Ext.cell u63 (cx61_2)), Ext.cell u64 (Ext.cell u63 (cx61_3)), Ext.cell u64 (Ext.cell u63 (cx62_0)), Ext.cell u64 (Ext.cell u63 (cx62_1)), Ext.cell u64 (Ext.cell u63 (cx62_2)), Ext.cell u64 (Ext.cell u63 (cx62_3))⟩ | exact ⟨Ext.cell u63 (cx60_0), Ext.cell u63 (cx61_0), Ext.cell u63 (cx61_1), Ext.cell u63 (cx61_2), Ext.cell u63 (cx61_3), Ext.cell u63 (cx62_0), Ext.cell u63 (cx62_1), Ext.cell u63 (cx62_2), Ext.cell u63 (cx62_3)⟩ | go_keep)
    ((first | (go_at_call 32; refine (implDerive_l _ xs0 _ xs1 _ xs2 _ xs3 _ xs4 _ ((((o63.ext u64).ext u65).ext u66).ext u67).read (((o64.ext u65).ext u66).ext u67).read ((o65.ext u66).ext u67).read (o66.ext u67).read o67.ints F1.out).mono ?_; rw [HV0.out]; rw [HV1.out]; rintro e w68 ⟨x68, rfl, o68, u68⟩) | (go_at_call 31; refine (toIntS_c _ xs4 _ (H4.out.ext (((((v58.drew).trans u63).trans u64).trans u65).trans u66)) L4.out).mono ?_; rintro e w67 ⟨x67, rfl, o67, u67⟩) | (go_at_call 30; refine (toTable_c _ xs3 _ (H3.out.ext ((((v58.drew).trans u63).trans u64).trans u65)) S3.out).mono ?_; rintro e w66 ⟨x66, rfl, o66, u66⟩) | (go_at_call 30; refine (toTable_c _ xs2 _ (H2.out.ext (((v58.drew).trans u63).trans u64)) S2.out).mono ?_; rintro e w65 ⟨x65, rfl, o65, u65⟩) | (go_at_call 11; refine (toVariableS_c _ xs1 _ (H1.out.ext ((v58.drew).trans u63)) S1.out.1).mono ?_; rintro e w64 ⟨x64, rfl, o64, u64⟩) | (go_at_call 10; refine (toGeo_c _ xs0 _ (H0.out.ext (v58.drew)) S0.out).mono ?_; rintro e w63 ⟨x63, rfl, o63, u63⟩)))
  have e68 := (((((((Ext.refl w58).drew.trans u63).trans u64).trans u65).trans u66).trans u67).trans u68)
  have v68 := v58.trans e68
  have SZ68 := Lib.hid e68.size
  have SY_u63 := Lib.hid u63.size
  have SY_u64 := Lib.hid u64.size
  have SY_u65 := Lib.hid u65.size
  have SY_u66 := Lib.hid u66.size
  have SY_u67 := Lib.hid u67.size
  have SY_u68 := Lib.hid u68.size
  have O68 := Lib.hid o68
  clear o68
  have RS_68 := Lib.hid u68.size
  go_wp2_with fail
  refine (eqIntS_b true _ _ V0 V0 _ (by simp) O68.out.ints (((((((((((((((((((((((((O16.out.ext u18).ext u19).ext u20).ext u22).ext u23).ext u25).ext u26).ext u27).ext u31).ext u32).ext e36).ext u37).ext u38).ext e42).ext e46).ext u47).ext u48).away U50.out (fun b hb => by have := RG50.out b hb; have := RS_18.out; have := RS_16.out; have := SZ0_0.out; have := SZ0_1.out; have := SZ0_2.out; have := SZ2.out; have := SZ3.out; have := SZ5.out; have := SZ7.out; have := SZ16.out; have := SY_u11.out; have := SY_u12.out; have := SY_u13.out; have := SY_u14.out; have := SY_u15.out; have := SY_u16.out; have := SZ18.out; have := SZ19.out; have := SA19.out; have := SZ20.out; have := SZ22.out; have := SZ23.out; have := SA23.out; have := SZ25.out; have := SZ26.out; have := SA26.out; have := SZ27.out; have := SZ31.out; have := SZ32.out; have := SZ36.out; have := SZ37.out; have := SZ38.out; have := SZ42.out; have := SZ46.out; have := SZ47.out; have := SZ48.out; have := SZ50.out; have := SZ51.out; have := SZ53.out; have := SZ55.out; have := SZ56.out; have := SZ57.out; have := SZ58.out; have := SZ68.out; have := SY_u63.out; have := SY_u64.out; have := SY_u65.out; have := SY_u66.out; have := SY_u67.out; have := SY_u68.out; omega)).away U51.out (fun b hb => by have := RG51.out b hb; have := RS_20.out; have := RS_16.out; have := SZ0_0.out; have := SZ0_1.out; have := SZ0_2.out; have := SZ2.out; have := SZ3.out; have := SZ5.out; have := SZ7.out; have := SZ16.out; have := SY_u11.out; have := SY_u12.out; have := SY_u13.out; have := SY_u14.out; have := SY_u15.out; have := SY_u16.out; have := SZ18.out; have := SZ19.out; have := SA19.out; have := SZ20.out; have := SZ22.out; have := SZ23.out; have := SA23.out; have := SZ25.out; have := SZ26.out; have := SA26.out; have := SZ27.out; have := SZ31.out; have := SZ32.out; have := SZ36.out; have := SZ37.out; have := SZ38.out; have := SZ42.out; have := SZ46.out; have := SZ47.out; have := SZ48.out; have := SZ50.out; have := SZ51.out; have := SZ53.out; have := SZ55.out; have := SZ56.out; have := SZ57.out; have := SZ58.out; have := SZ68.out; have := SY_u63.out; have := SY_u64.out; have := SY_u65.out; have := SY_u66.out; have := SY_u67.out; have := SY_u68.out; omega)).away U53.out (fun b hb => by have := RG53.out b hb; have := RS_22.out; have := RS_16.out; have := SZ0_0.out; have := SZ0_1.out; have := SZ0_2.out; have := SZ2.out; have := SZ3.out; have := SZ5.out; have := SZ7.out; have := SZ16.out; have := SY_u11.out; have := SY_u12.out; have := SY_u13.out; have := SY_u14.out; have := SY_u15.out; have := SY_u16.out; have := SZ18.out; have := SZ19.out; have := SA19.out; have := SZ20.out; have := SZ22.out; have := SZ23.out; have := SA23.out; have := SZ25.out; have := SZ26.out; have := SA26.out; have := SZ27.out; have := SZ31.out; have := SZ32.out; have := SZ36.out; have := SZ37.out; have := SZ38.out; have := SZ42.out; have := SZ46.out; have := SZ47.out; have := SZ48.out; have := SZ50.out; have := SZ51.out; have := SZ53.out; have := SZ55.out; have := SZ56.out; have := SZ57.out; have := SZ58.out; have := SZ68.out; have := SY_u63.out; have := SY_u64.out; have := SY_u65.out; have := SY_u66.out; have := SY_u67.out; have := SY_u68.out; omega)).away U55.out (fun b hb => by have := RG55.out b hb; have := RS_25.out; have := RS_16.out; have := SZ0_0.out; have := SZ0_1.out; have := SZ0_2.out; have := SZ2.out; have := SZ3.out; have := SZ5.out; have := SZ7.out; have := SZ16.out; have := SY_u11.out; have := SY_u12.out; have := SY_u13.out; have := SY_u14.out; have := SY_u15.out; have := SY_u16.out; have := SZ18.out; have := SZ19.out; have := SA19.out; have := SZ20.out; have := SZ22.out; have := SZ23.out; have := SA23.out; have := SZ25.out; have := SZ26.out; have := SA26.out; have := SZ27.out; have := SZ31.out; have := SZ32.out; have := SZ36.out; have := SZ37.out; have := SZ38.out; have := SZ42.out; have := SZ46.out; have := SZ47.out; have := SZ48.out; have := SZ50.out; have := SZ51.out; have := SZ53.out; have := SZ55.out; have := SZ56.out; have := SZ57.out; have := SZ58.out; have := SZ68.out; have := SY_u63.out; have := SY_u64.out; have := SY_u65.out; have := SY_u66.out; have := SY_u67.out; have := SY_u68.out; omega)).away U56.out (fun b hb => by have := RG56.out b hb; have := RS_27.out; have := RS_16.out; have := SZ0_0.out; have := SZ0_1.out; have := SZ0_2.out; have := SZ2.out; have := SZ3.out; have := SZ5.out; have := SZ7.out; have := SZ16.out; have := SY_u11.out; have := SY_u12.out; have := SY_u13.out; have := SY_u14.out; have := SY_u15.out; have := SY_u16.out; have := SZ18.out; have := SZ19.out; have := SA19.out; have := SZ20.out; have := SZ22.out; have := SZ23.out; have := SA23.out; have := SZ25.out; have := SZ26.out; have := SA26.out; have := SZ27.out; have := SZ31.out; have := SZ32.out; have := SZ36.out; have := SZ37.out; have := SZ38.out; have := SZ42.out; have := SZ46.out; have := SZ47.out; have := SZ48.out; have := SZ50.out; have := SZ51.out; have := SZ53.out; have := SZ55.out; have := SZ56.out; have := SZ57.out; have := SZ58.out; have := SZ68.out; have := SY_u63.out; have := SY_u64.out; have := SY_u65.out; have := SY_u66.out; have := SY_u67.out; have := SY_u68.out; omega)).ext u57).away U58.out (fun b hb => by have := RG58.out b hb; have := RS_31.out; have := RS_16.out; have := SZ0_0.out; have := SZ0_1.out; have := SZ0_2.out; have := SZ2.out; have := SZ3.out; have := SZ5.out; have := SZ7.out; have := SZ16.out; have := SY_u11.out; have := SY_u12.out; have := SY_u13.out; have := SY_u14.out; have := SY_u15.out; have := SY_u16.out; have := SZ18.out; have := SZ19.out; have := SA19.out; have := SZ20.out; have := SZ22.out; have := SZ23.out; have := SA23.out; have := SZ25.out; have := SZ26.out; have := SA26.out; have := SZ27.out; have := SZ31.out; have := SZ32.out; have := SZ36.out; have := SZ37.out; have := SZ38.out; have := SZ42.out; have := SZ46.out; have := SZ47.out; have := SZ48.out; have := SZ50.out; have := SZ51.out; have := SZ53.out; have := SZ55.out; have := SZ56.out; have := SZ57.out; have := SZ58.out; have := SZ68.out; have := SY_u63.out; have := SY_u64.out; have := SY_u65.out; have := SY_u66.out; have := SY_u67.out; have := SY_u68.out; omega)).ext e68).ints).mono ?_
  rintro e w69 ⟨rfl, d69⟩
  have u69 := Drew.ext d69
  have v69 := v68.trans u69
  have SZ69 := Lib.hid u69.size
  go_wp2_with fail
  refine (heldIntS_c _ V0.length 1 _ ((OM58.out.ext e68).ext u69).ints RS0.out (by omega)).mono ?_
  rw [HM0.out]
  rintro e w69 ⟨rfl, rfl⟩
  go_wp2
  go_ret
  exact ⟨rfl, v69⟩
end Go.Proofs.Ytolmmhdeebgglaa
