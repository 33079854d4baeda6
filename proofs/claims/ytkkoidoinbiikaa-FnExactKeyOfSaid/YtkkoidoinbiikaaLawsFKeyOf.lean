/- The law on KeyOf. -/
import Derived.Test.YtkkoidoinbiikaaInp
import Derived.Test.YtkkoidoinbiikaaPeO
import Derived.Test.YtkkoidoinbiikaaRgOf
import Derived.Deep.RegionHeld3
namespace Go.Proofs.Ytkkoidoinbiikaa
open Go.RowKit

set_option maxHeartbeats 3200000 in
theorem lawKeyOf_c (v0 : Value) (xs0 : List Vr) (v1 : Value) (xs1 : Pe) (v2 : Value) (xs2 : List Int) (w : World) (h0 : Vrs w v0 xs0) (h1 : PeR w v1 xs1) (h2 : Ints w v2 xs2) (f0 : WfV xs0) (_ : PeWf xs1) (_ : Wf xs2) :
    Calls Try.prog 5 #[v0, v1, v2] w fun e w' => e = .returned (.bool true) ∧ Ext w w' := by
  have H0 := Lib.hid h0; clear h0
  have F0 := Lib.hid f0; clear f0
  have H1 := Lib.hid h1
  obtain ⟨ao1_2, cap1_2, rfl, _⟩ := h1.form; clear h1
  have H2 := Lib.hid h2
  obtain ⟨ao2, cap2, rfl, p2, q2, r2⟩ := h2
  clear r2
  have ba1 := Box.new w 47 #[.int .i64 xs1.area, .int .i64 xs1.house, .slice ao1_2 xs1.vals.length cap1_2] rfl
  have SZ0_0 : Hid ((w.alloc (.cells #[.int .i64 xs1.area, .int .i64 xs1.house, .slice ao1_2 xs1.vals.length cap1_2] 47)).heap.size = w.heap.size + 1) := Lib.hid (by simp)
  have v0 := ((Ext.refl w).alloc (.cells #[.int .i64 xs1.area, .int .i64 xs1.house, .slice ao1_2 xs1.vals.length cap1_2] 47))
  by_cases hl2 : (1048576 : Int) < (xs2.length : Int)
  · go_enter Try.func5, Try.ntmps5
    go_wp2
    go_ret
    exact ⟨rfl, v0⟩
  have L2 := Lib.hid (show xs2.length ≤ 1048576 by omega)
  obtain ⟨V0, hV0⟩ : ∃ V, koV xs0 xs1 xs2 = V := ⟨_, rfl⟩
  have HV0 := Lib.hid hV0; clear hV0
  have qv0 : (V0 != V0) = false := by simp
  have qw0 : decide (V0 = V0) = true := by simp
  obtain ⟨V1, hV1⟩ : ∃ V, koB xs0 xs1 xs2 = V := ⟨_, rfl⟩
  have HV1 := Lib.hid hV1; clear hV1
  have qv1 : (V1 != V1) = false := by simp
  go_enter Try.func5, Try.ntmps5
  go_wp2_with fail
  refine (szVariableS_c _ xs0 1048576 _ (H0.out.ext v0) F0.out (by omega)).mono ?_
  rintro e w1 ⟨t0, rfl, hr0, u1⟩
  have v1 := v0.trans u1
  have SZ1 := Lib.hid u1.size
  rcases hr0 with hr0 | ⟨hr0, hq0, hs0⟩
  · go_wp2
    go_ret
    exact ⟨rfl, v1⟩
  have hz0 : ¬ (t0 < 0) := by omega
  have tr0 : 0 ≤ t0 ∧ t0 ≤ 1048576 := by omega
  have S0 := Lib.hid hs0; clear hs0 hr0 hq0
  have bx2 := (ba1.ext u1)
  have cx2_0 := bx2.cell 0 (by simp)
  have cx2_1 := bx2.cell 1 (by simp)
  have cx2_2 := bx2.cell 2 (by simp)
  go_wp2_with fail
  refine (szPe_c _ xs1 t0 _ (H1.out.ext v1) (by omega)).mono ?_
  rintro e w3 ⟨t1, rfl, hr1, u3⟩
  have v3 := v1.trans u3
  have SZ3 := Lib.hid u3.size
  rcases hr1 with hr1 | ⟨hr1, hq1, hs1⟩
  · go_wp2
    go_ret
    exact ⟨rfl, v3⟩
  have hz1 : ¬ (t1 < 0) := by omega
  have tr1 : 0 ≤ t1 ∧ t1 ≤ 1048576 := by omega
  have S1 := Lib.hid hs1; clear hs1 hr1 hq1
  have bx4 := ((ba1.ext u1).ext u3)
  have cx4_0 := bx4.cell 0 (by simp)
  have cx4_1 := bx4.cell 1 (by simp)
  have cx4_2 := bx4.cell 2 (by simp)
  go_wp2_with fail
  go_region_held3 (fun w' => w'.cell? ⟨w.heap.size, 0, none⟩ = some (.int .i64 xs1.area) ∧ w'.cell? ⟨w.heap.size, 1, none⟩ = some (.int .i64 xs1.house) ∧ w'.cell? ⟨w.heap.size, 2, none⟩ = some (.slice ao1_2 xs1.vals.length cap1_2))
    (first | exact ⟨Ext.cell u8 (Ext.cell u7 (Ext.cell u6 (Ext.cell u5 (cx4_0)))), Ext.cell u8 (Ext.cell u7 (Ext.cell u6 (Ext.cell u5 (cx4_1)))), Ext.cell u8 (Ext.cell u7 (Ext.cell u6 (Ext.cell u5 (cx4_2))))⟩ | exact ⟨Ext.cell u7 (Ext.cell u6 (Ext.cell u5 (cx4_0))), Ext.cell u7 (Ext.cell u6 (Ext.cell u5 (cx4_1))), Ext.cell u7 (Ext.cell u6 (Ext.cell u5 (cx4_2)))⟩ | exact ⟨Ext.cell u6 (Ext.cell u5 (cx4_0)), Ext.cell u6 (Ext.cell u5 (cx4_1)), Ext.cell u6 (Ext.cell u5 (cx4_2))⟩ | exact ⟨Ext.cell u5 (cx4_0), Ext.cell u5 (cx4_1), Ext.cell u5 (cx4_2)⟩ | go_keep)
    ((first | (go_at_call 31; refine (specKeyOf_c _ xs0 _ xs1 _ xs2 _ ((o5.ext u6).ext u7).read (o6.ext u7).read o7.ints F0.out).mono ?_; rw [HV0.out]; rw [HV1.out]; rintro e w8 ⟨rfl, u8⟩) | (go_at_call 17; refine (toIntS_c _ xs2 _ (H2.out.ext (((v3.drew).trans u5).trans u6)) L2.out).mono ?_; rintro e w7 ⟨x7, rfl, o7, u7⟩) | (go_at_call 32; refine (toPe_c _ xs1 _ (H1.out.ext ((v3.drew).trans u5)) S1.out).mono ?_; rintro e w6 ⟨x6, rfl, o6, u6⟩) | (go_at_call 15; refine (toVariableS_c _ xs0 _ (H0.out.ext (v3.drew)) S0.out.1).mono ?_; rintro e w5 ⟨x5, rfl, o5, u5⟩)))
  have e8 := (((((Ext.refl w3).drew.trans u5).trans u6).trans u7).trans u8)
  have v8 := v3.trans e8
  have SZ8 := Lib.hid e8.size
  go_wp2_with fail
  refine (toVariableS_c _ xs0 _ (H0.out.ext v8) S0.out.1).mono ?_
  rintro e w9 ⟨x9, rfl, o9, u9⟩
  have v9 := v8.trans u9
  have SZ9 := Lib.hid u9.size
  have O9 := Lib.hid o9
  clear o9
  have RS_9 := Lib.hid u9.size
  have bx10 := ((((ba1.ext u1).ext u3).ext e8).ext u9)
  have cx10_0 := bx10.cell 0 (by simp)
  have cx10_1 := bx10.cell 1 (by simp)
  have cx10_2 := bx10.cell 2 (by simp)
  go_wp2_with fail
  refine (toPe_c _ xs1 _ (H1.out.ext v9) S1.out).mono ?_
  rintro e w11 ⟨x11, rfl, o11, u11⟩
  have v11 := v9.trans u11
  have SZ11 := Lib.hid u11.size
  have O11 := Lib.hid o11
  clear o11
  have RS_11 := Lib.hid u11.size
  obtain ⟨a11_2, cp11_2, hxx11, _⟩ := O11.out.read.form
  subst hxx11
  have bo11 := Box.new w11 50 #[.int .i64 xs1.area, .int .i64 xs1.house, .slice a11_2 xs1.vals.length cp11_2] rfl
  have u12 := (Ext.refl w11).alloc (.cells #[.int .i64 xs1.area, .int .i64 xs1.house, .slice a11_2 xs1.vals.length cp11_2] 50)
  have v12 := v11.trans u12
  have SZ12 := Lib.hid u12.size
  have SA12 : Hid ((w11.alloc (.cells #[.int .i64 xs1.area, .int .i64 xs1.house, .slice a11_2 xs1.vals.length cp11_2] 50)).heap.size = w11.heap.size + 1) := Lib.hid (by simp)
  go_wp2_with fail
  refine (toIntS_c _ xs2 _ (H2.out.ext v12) L2.out).mono ?_
  rintro e w13 ⟨x13, rfl, o13, u13⟩
  have v13 := v12.trans u13
  have SZ13 := Lib.hid u13.size
  have O13 := Lib.hid o13
  clear o13
  have RS_13 := Lib.hid u13.size
  have bx14 := (bo11.ext u13)
  have cx14_0 := bx14.cell 0 (by simp)
  have cx14_1 := bx14.cell 1 (by simp)
  have cx14_2 := bx14.cell 2 (by simp)
  go_wp2_with fail
  refine (implKeyOf_c _ xs0 _ xs1 _ xs2 _ (((O9.out.ext u11).ext u12).ext u13).read ((O11.out.ext u12).ext u13).read O13.out.ints F0.out ).mono ?_
  rw [HV0.out]
  rw [HV1.out]
  rintro e w15 ⟨rfl, u15⟩
  have v15 := v13.trans u15
  have SZ15 := Lib.hid u15.size
  go_wp2_with fail
  refine (toVariableS_c _ xs0 _ (H0.out.ext v15) S0.out.1).mono ?_
  rintro e w16 ⟨x16, rfl, o16, u16⟩
  have v16 := v15.trans u16
  have SZ16 := Lib.hid u16.size
  have O16 := Lib.hid o16
  clear o16
  have RS_16 := Lib.hid u16.size
  go_wp2_with fail
  refine (eqVariableS_t _ _ xs0 _ (((((O9.out.ext u11).ext u12).ext u13).ext u15).ext u16).read O16.out.read).mono ?_
  rintro e w17 ⟨rfl, u17⟩
  have v17 := v16.trans u17
  have SZ17 := Lib.hid u17.size
  have bx18 := ((((((((((ba1.ext u1).ext u3).ext e8).ext u9).ext u11).ext u12).ext u13).ext u15).ext u16).ext u17)
  have cx18_0 := bx18.cell 0 (by simp)
  have cx18_1 := bx18.cell 1 (by simp)
  have cx18_2 := bx18.cell 2 (by simp)
  have bx19 := ((((bo11.ext u13).ext u15).ext u16).ext u17)
  have cx19_0 := bx19.cell 0 (by simp)
  have cx19_1 := bx19.cell 1 (by simp)
  have cx19_2 := bx19.cell 2 (by simp)
  have HA20 := Lib.hid ((H1.out.ext v17))
  have HX20 := Lib.hid ((((((O11.out.ext u12).ext u13).ext u15).ext u16).ext u17).read)
  go_wp2_with fail
  go_region_held3 (fun w' => w'.cell? ⟨w.heap.size, 0, none⟩ = some (.int .i64 xs1.area) ∧ w'.cell? ⟨w.heap.size, 1, none⟩ = some (.int .i64 xs1.house) ∧ w'.cell? ⟨w.heap.size, 2, none⟩ = some (.slice ao1_2 xs1.vals.length cap1_2) ∧ w'.cell? ⟨w11.heap.size, 0, none⟩ = some (.int .i64 xs1.area) ∧ w'.cell? ⟨w11.heap.size, 1, none⟩ = some (.int .i64 xs1.house) ∧ w'.cell? ⟨w11.heap.size, 2, none⟩ = some (.slice a11_2 xs1.vals.length cp11_2))
    (first | exact ⟨Ext.cell u21 (Ext.cell u20 cx18_0), Ext.cell u21 (Ext.cell u20 cx18_1), Ext.cell u21 (Ext.cell u20 cx18_2), Ext.cell u21 (Ext.cell u20 cx19_0), Ext.cell u21 (Ext.cell u20 cx19_1), Ext.cell u21 (Ext.cell u20 cx19_2)⟩ | exact ⟨Ext.cell u20 cx18_0, Ext.cell u20 cx18_1, Ext.cell u20 cx18_2, Ext.cell u20 cx19_0, Ext.cell u20 cx19_1, Ext.cell u20 cx19_2⟩ | go_keep)
    ((first
      | (go_at_call 32; refine (toPe_c _ xs1 _ (HA20.out.ext (Ext.refl _).drew) S1.out).mono ?_; rintro e w20 ⟨x20, rfl, o20, u20⟩)
      | (go_at_call 34; refine (eqPe_t _ _ xs1 _ ((HX20.out.ext (Ext.refl _).drew).ext u20) o20.read).mono ?_; rintro e w21 ⟨rfl, u21⟩)))
  have e21 := ((Ext.refl w17).drew.trans u20).trans u21
  clear o20
  have v21 := v17.trans e21
  have SZ21 := Lib.hid e21.size
  go_wp2_with fail
  refine (toIntS_c _ xs2 _ (H2.out.ext v21) L2.out).mono ?_
  rintro e w22 ⟨x22, rfl, o22, u22⟩
  have v22 := v21.trans u22
  have SZ22 := Lib.hid u22.size
  have O22 := Lib.hid o22
  clear o22
  have RS_22 := Lib.hid u22.size
  go_wp2_with fail
  refine (eqIntS_b true _ _ xs2 xs2 _ (by simp) (((((O13.out.ext u15).ext u16).ext u17).ext e21).ext u22).ints O22.out.ints).mono ?_
  rintro e w23 ⟨rfl, d23⟩
  have u23 := Drew.ext d23
  have v23 := v22.trans u23
  have SZ23 := Lib.hid u23.size
  go_wp2
  go_ret
  exact ⟨rfl, v23⟩
end Go.Proofs.Ytkkoidoinbiikaa
