/- The law on CheckCut. -/
import Derived.Test.YthdfiebacomilaaCheck
import Derived.Test.YthdfiebacomilaaRgOf
import Derived.Deep.RegionHeld3
namespace Go.Proofs.Ythdfiebacomilaa
open Go.RowKit

set_option maxHeartbeats 3200000 in
theorem lawCheckCut_c (v0 : Value) (xs0 : Tr) (v1 : Value) (xs1 : List Int) (v2 : Value) (xs2 : List Int) (w : World) (h0 : TrR w v0 xs0) (h1 : Ints w v1 xs1) (h2 : Ints w v2 xs2) (_ : TrWf xs0) (_ : Wf xs1) (_ : Wf xs2) :
    Calls Try.prog 3 #[v0, v1, v2] w fun e w' => e = .returned (.bool true) ∧ Ext w w' := by
  have H0 := Lib.hid h0
  obtain ⟨ao0_0, cap0_0, ao0_1, cap0_1, ao0_2, cap0_2, ao0_3, cap0_3, rfl, _, _, _, _⟩ := h0.form; clear h0
  have H1 := Lib.hid h1
  obtain ⟨ao1, cap1, rfl, p1, q1, r1⟩ := h1
  clear r1
  have H2 := Lib.hid h2
  obtain ⟨ao2, cap2, rfl, p2, q2, r2⟩ := h2
  clear r2
  have ba0 := Box.new w 25 #[.slice ao0_0 xs0.rows.length cap0_0, .slice ao0_1 xs0.cols.length cap0_1, .slice ao0_2 xs0.lo.length cap0_2, .slice ao0_3 xs0.hi.length cap0_3] rfl
  have SZ0_0 : Hid ((w.alloc (.cells #[.slice ao0_0 xs0.rows.length cap0_0, .slice ao0_1 xs0.cols.length cap0_1, .slice ao0_2 xs0.lo.length cap0_2, .slice ao0_3 xs0.hi.length cap0_3] 25)).heap.size = w.heap.size + 1) := Lib.hid (by simp)
  have v0 := ((Ext.refl w).alloc (.cells #[.slice ao0_0 xs0.rows.length cap0_0, .slice ao0_1 xs0.cols.length cap0_1, .slice ao0_2 xs0.lo.length cap0_2, .slice ao0_3 xs0.hi.length cap0_3] 25))
  by_cases hl1 : (1048576 : Int) < (xs1.length : Int)
  · go_enter Try.func3, Try.ntmps3
    go_wp2
    go_ret
    exact ⟨rfl, v0⟩
  have L1 := Lib.hid (show xs1.length ≤ 1048576 by omega)
  by_cases hl2 : (1048576 : Int) < (xs2.length : Int)
  · go_enter Try.func3, Try.ntmps3
    go_wp2
    go_ret
    exact ⟨rfl, v0⟩
  have L2 := Lib.hid (show xs2.length ≤ 1048576 by omega)
  obtain ⟨V0, hV0⟩ : ∃ V, checkV xs0 xs1 xs2 = V := ⟨_, rfl⟩
  have HV0 := Lib.hid hV0; clear hV0
  have qv0 : (V0 != V0) = false := by simp
  obtain ⟨V1, hV1⟩ : ∃ V, checkB xs0 xs1 xs2 = V := ⟨_, rfl⟩
  have HV1 := Lib.hid hV1; clear hV1
  have qv1 : (V1 != V1) = false := by simp
  go_enter Try.func3, Try.ntmps3
  have bx1 := ba0
  have cx1_0 := bx1.cell 0 (by simp)
  have cx1_1 := bx1.cell 1 (by simp)
  have cx1_2 := bx1.cell 2 (by simp)
  have cx1_3 := bx1.cell 3 (by simp)
  go_wp2_with fail
  refine (szTransport_c _ xs0 1048576 _ (H0.out.ext v0) (by omega)).mono ?_
  rintro e w2 ⟨t0, rfl, hr0, u2⟩
  have v2 := v0.trans u2
  have SZ2 := Lib.hid u2.size
  rcases hr0 with hr0 | ⟨hr0, hq0, hs0⟩
  · go_wp2
    go_ret
    exact ⟨rfl, v2⟩
  have hz0 : ¬ (t0 < 0) := by omega
  have tr0 : 0 ≤ t0 ∧ t0 ≤ 1048576 := by omega
  have S0 := Lib.hid hs0; clear hs0 hr0 hq0
  have bx3 := (ba0.ext u2)
  have cx3_0 := bx3.cell 0 (by simp)
  have cx3_1 := bx3.cell 1 (by simp)
  have cx3_2 := bx3.cell 2 (by simp)
  have cx3_3 := bx3.cell 3 (by simp)
  go_wp2_with fail
  refine (toTransport_c _ xs0 _ (H0.out.ext v2) S0.out).mono ?_
  rintro e w4 ⟨x4, rfl, o4, u4⟩
  have v4 := v2.trans u4
  have SZ4 := Lib.hid u4.size
  have O4 := Lib.hid o4
  clear o4
  have RS_4 := Lib.hid u4.size
  go_wp2_with fail
  refine (toIntS_c _ xs1 _ (H1.out.ext v4) L1.out).mono ?_
  rintro e w5 ⟨x5, rfl, o5, u5⟩
  have v5 := v4.trans u5
  have SZ5 := Lib.hid u5.size
  have O5 := Lib.hid o5
  clear o5
  have RS_5 := Lib.hid u5.size
  go_wp2_with fail
  refine (toIntS_c _ xs2 _ (H2.out.ext v5) L2.out).mono ?_
  rintro e w6 ⟨x6, rfl, o6, u6⟩
  have v6 := v5.trans u6
  have SZ6 := Lib.hid u6.size
  have O6 := Lib.hid o6
  clear o6
  have RS_6 := Lib.hid u6.size
  go_wp2_with fail
  refine (specCheck_c _ xs0 _ xs1 _ xs2 _ ((O4.out.ext u5).ext u6).read (O5.out.ext u6).ints O6.out.ints ).mono ?_
  rw [HV0.out]
  rw [HV1.out]
  rintro e w7 ⟨rfl, u7⟩
  have v7 := v6.trans u7
  have SZ7 := Lib.hid u7.size
  have bx8 := (((((ba0.ext u2).ext u4).ext u5).ext u6).ext u7)
  have cx8_0 := bx8.cell 0 (by simp)
  have cx8_1 := bx8.cell 1 (by simp)
  have cx8_2 := bx8.cell 2 (by simp)
  have cx8_3 := bx8.cell 3 (by simp)
  go_wp2_with fail
  refine (toTransport_c _ xs0 _ (H0.out.ext v7) S0.out).mono ?_
  rintro e w9 ⟨x9, rfl, o9, u9⟩
  have v9 := v7.trans u9
  have SZ9 := Lib.hid u9.size
  have O9 := Lib.hid o9
  clear o9
  have RS_9 := Lib.hid u9.size
  obtain ⟨a9_0, cp9_0, a9_1, cp9_1, a9_2, cp9_2, a9_3, cp9_3, hxx9, _, _, _, _⟩ := O9.out.read.form
  subst hxx9
  have bo9 := Box.new w9 29 #[.slice a9_0 xs0.rows.length cp9_0, .slice a9_1 xs0.cols.length cp9_1, .slice a9_2 xs0.lo.length cp9_2, .slice a9_3 xs0.hi.length cp9_3] rfl
  have u10 := (Ext.refl w9).alloc (.cells #[.slice a9_0 xs0.rows.length cp9_0, .slice a9_1 xs0.cols.length cp9_1, .slice a9_2 xs0.lo.length cp9_2, .slice a9_3 xs0.hi.length cp9_3] 29)
  have v10 := v9.trans u10
  have SZ10 := Lib.hid u10.size
  have SA10 : Hid ((w9.alloc (.cells #[.slice a9_0 xs0.rows.length cp9_0, .slice a9_1 xs0.cols.length cp9_1, .slice a9_2 xs0.lo.length cp9_2, .slice a9_3 xs0.hi.length cp9_3] 29)).heap.size = w9.heap.size + 1) := Lib.hid (by simp)
  go_wp2_with fail
  refine (toIntS_c _ xs1 _ (H1.out.ext v10) L1.out).mono ?_
  rintro e w11 ⟨x11, rfl, o11, u11⟩
  have v11 := v10.trans u11
  have SZ11 := Lib.hid u11.size
  have O11 := Lib.hid o11
  clear o11
  have RS_11 := Lib.hid u11.size
  go_wp2_with fail
  refine (toIntS_c _ xs2 _ (H2.out.ext v11) L2.out).mono ?_
  rintro e w12 ⟨x12, rfl, o12, u12⟩
  have v12 := v11.trans u12
  have SZ12 := Lib.hid u12.size
  have O12 := Lib.hid o12
  clear o12
  have RS_12 := Lib.hid u12.size
  have bx13 := ((bo9.ext u11).ext u12)
  have cx13_0 := bx13.cell 0 (by simp)
  have cx13_1 := bx13.cell 1 (by simp)
  have cx13_2 := bx13.cell 2 (by simp)
  have cx13_3 := bx13.cell 3 (by simp)
  go_wp2_with fail
  refine (implCheck_c _ xs0 _ xs1 _ xs2 _ (((O9.out.ext u10).ext u11).ext u12).read (O11.out.ext u12).ints O12.out.ints ).mono ?_
  rw [HV0.out]
  rw [HV1.out]
  rintro e w14 ⟨rfl, u14⟩
  have v14 := v12.trans u14
  have SZ14 := Lib.hid u14.size
  have bx15 := ((((((((((ba0.ext u2).ext u4).ext u5).ext u6).ext u7).ext u9).ext u10).ext u11).ext u12).ext u14)
  have cx15_0 := bx15.cell 0 (by simp)
  have cx15_1 := bx15.cell 1 (by simp)
  have cx15_2 := bx15.cell 2 (by simp)
  have cx15_3 := bx15.cell 3 (by simp)
  have bx16 := (((bo9.ext u11).ext u12).ext u14)
  have cx16_0 := bx16.cell 0 (by simp)
  have cx16_1 := bx16.cell 1 (by simp)
  have cx16_2 := bx16.cell 2 (by simp)
  have cx16_3 := bx16.cell 3 (by simp)
  have HA17 := Lib.hid ((H0.out.ext v14))
  have HX17 := Lib.hid (((((O9.out.ext u10).ext u11).ext u12).ext u14).read)
  go_wp2_with fail
  go_region_held3 (fun w' => w'.cell? ⟨w.heap.size, 0, none⟩ = some (.slice ao0_0 xs0.rows.length cap0_0) ∧ w'.cell? ⟨w.heap.size, 1, none⟩ = some (.slice ao0_1 xs0.cols.length cap0_1) ∧ w'.cell? ⟨w.heap.size, 2, none⟩ = some (.slice ao0_2 xs0.lo.length cap0_2) ∧ w'.cell? ⟨w.heap.size, 3, none⟩ = some (.slice ao0_3 xs0.hi.length cap0_3) ∧ w'.cell? ⟨w9.heap.size, 0, none⟩ = some (.slice a9_0 xs0.rows.length cp9_0) ∧ w'.cell? ⟨w9.heap.size, 1, none⟩ = some (.slice a9_1 xs0.cols.length cp9_1) ∧ w'.cell? ⟨w9.heap.size, 2, none⟩ = some (.slice a9_2 xs0.lo.length cp9_2) ∧ w'.cell? ⟨w9.heap.size, 3, none⟩ = some (.slice a9_3 xs0.hi.length cp9_3))
    (first | exact ⟨Ext.cell u18 (Ext.cell u17 cx15_0), Ext.cell u18 (Ext.cell u17 cx15_1), Ext.cell u18 (Ext.cell u17 cx15_2), Ext.cell u18 (Ext.cell u17 cx15_3), Ext.cell u18 (Ext.cell u17 cx16_0), Ext.cell u18 (Ext.cell u17 cx16_1), Ext.cell u18 (Ext.cell u17 cx16_2), Ext.cell u18 (Ext.cell u17 cx16_3)⟩ | exact ⟨Ext.cell u17 cx15_0, Ext.cell u17 cx15_1, Ext.cell u17 cx15_2, Ext.cell u17 cx15_3, Ext.cell u17 cx16_0, Ext.cell u17 cx16_1, Ext.cell u17 cx16_2, Ext.cell u17 cx16_3⟩ | go_keep)
    ((first
      | (go_at_call 15; refine (toTransport_c _ xs0 _ (HA17.out.ext (Ext.refl _).drew) S0.out).mono ?_; rintro e w17 ⟨x17, rfl, o17, u17⟩)
      | (go_at_call 18; refine (eqTransport_t _ _ xs0 _ ((HX17.out.ext (Ext.refl _).drew).ext u17) o17.read).mono ?_; rintro e w18 ⟨rfl, u18⟩)))
  have e18 := ((Ext.refl w14).drew.trans u17).trans u18
  clear o17
  have v18 := v14.trans e18
  have SZ18 := Lib.hid e18.size
  go_wp2_with fail
  refine (toIntS_c _ xs1 _ (H1.out.ext v18) L1.out).mono ?_
  rintro e w19 ⟨x19, rfl, o19, u19⟩
  have v19 := v18.trans u19
  have SZ19 := Lib.hid u19.size
  have O19 := Lib.hid o19
  clear o19
  have RS_19 := Lib.hid u19.size
  go_wp2_with fail
  refine (eqIntS_b true _ _ xs1 xs1 _ (by simp) ((((O11.out.ext u12).ext u14).ext e18).ext u19).ints O19.out.ints).mono ?_
  rintro e w20 ⟨rfl, d20⟩
  have u20 := Drew.ext d20
  have v20 := v19.trans u20
  have SZ20 := Lib.hid u20.size
  go_wp2_with fail
  refine (toIntS_c _ xs2 _ (H2.out.ext v20) L2.out).mono ?_
  rintro e w21 ⟨x21, rfl, o21, u21⟩
  have v21 := v20.trans u21
  have SZ21 := Lib.hid u21.size
  have O21 := Lib.hid o21
  clear o21
  have RS_21 := Lib.hid u21.size
  go_wp2_with fail
  refine (eqIntS_b true _ _ xs2 xs2 _ (by simp) (((((O12.out.ext u14).ext e18).ext u19).ext u20).ext u21).ints O21.out.ints).mono ?_
  rintro e w22 ⟨rfl, d22⟩
  have u22 := Drew.ext d22
  have v22 := v21.trans u22
  have SZ22 := Lib.hid u22.size
  go_wp2
  go_ret
  exact ⟨rfl, v22⟩
end Go.Proofs.Ythdfiebacomilaa
