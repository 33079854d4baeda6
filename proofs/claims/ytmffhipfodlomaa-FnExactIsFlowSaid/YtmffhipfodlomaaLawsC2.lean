/- The law on IsFlow. -/
import Derived.Test.YtmffhipfodlomaaFlowIm
import Derived.Test.YtmffhipfodlomaaLawsC
import Derived.Deep.RegionHeld3
namespace Go.Proofs.Ytmffhipfodlomaa
open Go.RowKit

set_option maxHeartbeats 3200000 in
theorem lawIsFlow_c (v0 : Value) (xs0 : Tr) (v1 : Value) (xs1 : List (List Int)) (w : World) (h0 : TrR w v0 xs0) (h1 : Grid w v1 xs1) (_ : TrWf xs0) (_ : WfG xs1) :
    Calls Try.prog 10 #[v0, v1] w fun e w' => e = .returned (.bool true) ∧ Ext w w' := by
  have H0 := Lib.hid h0
  obtain ⟨ao0_0, cap0_0, ao0_1, cap0_1, ao0_2, cap0_2, ao0_3, cap0_3, rfl, _, _, _, _⟩ := h0.form; clear h0
  have H1 := Lib.hid h1; clear h1
  have ba0 := Box.new w 25 #[.slice ao0_0 xs0.rows.length cap0_0, .slice ao0_1 xs0.cols.length cap0_1, .slice ao0_2 xs0.lo.length cap0_2, .slice ao0_3 xs0.hi.length cap0_3] rfl
  have SZ0_0 : Hid ((w.alloc (.cells #[.slice ao0_0 xs0.rows.length cap0_0, .slice ao0_1 xs0.cols.length cap0_1, .slice ao0_2 xs0.lo.length cap0_2, .slice ao0_3 xs0.hi.length cap0_3] 25)).heap.size = w.heap.size + 1) := Lib.hid (by simp)
  have v0 := ((Ext.refl w).alloc (.cells #[.slice ao0_0 xs0.rows.length cap0_0, .slice ao0_1 xs0.cols.length cap0_1, .slice ao0_2 xs0.lo.length cap0_2, .slice ao0_3 xs0.hi.length cap0_3] 25))
  obtain ⟨V0, hV0⟩ : ∃ V, (trB xs0 && flowB xs0 xs1) = V := ⟨_, rfl⟩
  have HV0 := Lib.hid hV0; clear hV0
  have qv0 : (V0 != V0) = false := by simp
  obtain ⟨V1, hV1⟩ : ∃ V, trB xs0 = V := ⟨_, rfl⟩
  have HV1 := Lib.hid hV1; clear hV1
  have qv1 : (V1 != V1) = false := by simp
  go_enter Try.func10, Try.ntmps10
  have bx1 := ba0
  have cx1_0 := bx1.cell 0 (by simp)
  have cx1_1 := bx1.cell 1 (by simp)
  have cx1_2 := bx1.cell 2 (by simp)
  have cx1_3 := bx1.cell 3 (by simp)
  go_wp2_with fail
  refine (szTransport_c _ xs0 1048576 _ (H0.out.ext v0) (by omega)).mono ?_
  rintro e w2 ⟨t0, rfl, hr0, u2⟩
  have v2 := v0.trans u2
  have SZ2 := Lib.hid u2.size
  rcases hr0 with hr0 | ⟨hr0, hq0, hs0⟩
  · go_wp2
    go_ret
    exact ⟨rfl, v2⟩
  have hz0 : ¬ (t0 < 0) := by omega
  have tr0 : 0 ≤ t0 ∧ t0 ≤ 1048576 := by omega
  have S0 := Lib.hid hs0; clear hs0 hr0 hq0
  obtain ⟨t1, ht1⟩ : ∃ t, szG t0 xs1 = t := ⟨_, rfl⟩
  have T1 := Lib.hid ht1; clear ht1
  go_wp2_with fail
  refine (szIntSS_c _ xs1 t0 _ (H1.out.ext v2) (by omega)).mono ?_
  rw [T1.out]
  rintro e w2 ⟨rfl, rfl⟩
  by_cases hz1 : t1 < 0
  · go_wp2
    go_ret
    exact ⟨rfl, v2⟩
  have tr1 : 0 ≤ t1 ∧ t1 ≤ 1048576 := by have h1 := T1.out; have h2 := szG_range (left := t0) (xss := xs1) (by omega); omega
  have S1 := Lib.hid (Small.of_szG (left := t0) (xss := xs1) (by omega) (by have h1 := T1.out; omega))
  have bx4 := (ba0.ext u2)
  have cx4_0 := bx4.cell 0 (by simp)
  have cx4_1 := bx4.cell 1 (by simp)
  have cx4_2 := bx4.cell 2 (by simp)
  have cx4_3 := bx4.cell 3 (by simp)
  go_wp2_with fail
  refine (toTransport_c _ xs0 _ (H0.out.ext v2) S0.out).mono ?_
  rintro e w5 ⟨x5, rfl, o5, u5⟩
  have v5 := v2.trans u5
  have SZ5 := Lib.hid u5.size
  have O5 := Lib.hid o5
  clear o5
  have RS_5 := Lib.hid u5.size
  go_wp2_with fail
  refine (toIntSS_c _ xs1 _ (H1.out.ext v5) S1.out.len S1.out.row).mono ?_
  rintro e w6 ⟨x6, r6, rfl, o6, u6⟩
  have v6 := v5.trans u6
  have SZ6 := Lib.hid u6.size
  have O6 := Lib.hid o6
  clear o6
  have RS_6 := Lib.hid u6.size
  go_wp2_with fail
  refine (specIsFlow_c _ xs0 _ xs1 _ (O5.out.ext u6).read O6.out.grid ).mono ?_
  rw [HV0.out]
  rw [HV1.out]
  rintro e w7 ⟨rfl, u7⟩
  have v7 := v6.trans u7
  have SZ7 := Lib.hid u7.size
  have bx8 := ((((ba0.ext u2).ext u5).ext u6).ext u7)
  have cx8_0 := bx8.cell 0 (by simp)
  have cx8_1 := bx8.cell 1 (by simp)
  have cx8_2 := bx8.cell 2 (by simp)
  have cx8_3 := bx8.cell 3 (by simp)
  go_wp2_with fail
  refine (toTransport_c _ xs0 _ (H0.out.ext v7) S0.out).mono ?_
  rintro e w9 ⟨x9, rfl, o9, u9⟩
  have v9 := v7.trans u9
  have SZ9 := Lib.hid u9.size
  have O9 := Lib.hid o9
  clear o9
  have RS_9 := Lib.hid u9.size
  obtain ⟨a9_0, cp9_0, a9_1, cp9_1, a9_2, cp9_2, a9_3, cp9_3, hxx9, _, _, _, _⟩ := O9.out.read.form
  subst hxx9
  have bo9 := Box.new w9 28 #[.slice a9_0 xs0.rows.length cp9_0, .slice a9_1 xs0.cols.length cp9_1, .slice a9_2 xs0.lo.length cp9_2, .slice a9_3 xs0.hi.length cp9_3] rfl
  have u10 := (Ext.refl w9).alloc (.cells #[.slice a9_0 xs0.rows.length cp9_0, .slice a9_1 xs0.cols.length cp9_1, .slice a9_2 xs0.lo.length cp9_2, .slice a9_3 xs0.hi.length cp9_3] 28)
  have v10 := v9.trans u10
  have SZ10 := Lib.hid u10.size
  have SA10 : Hid ((w9.alloc (.cells #[.slice a9_0 xs0.rows.length cp9_0, .slice a9_1 xs0.cols.length cp9_1, .slice a9_2 xs0.lo.length cp9_2, .slice a9_3 xs0.hi.length cp9_3] 28)).heap.size = w9.heap.size + 1) := Lib.hid (by simp)
  go_wp2_with fail
  refine (toIntSS_c _ xs1 _ (H1.out.ext v10) S1.out.len S1.out.row).mono ?_
  rintro e w11 ⟨x11, r11, rfl, o11, u11⟩
  have v11 := v10.trans u11
  have SZ11 := Lib.hid u11.size
  have O11 := Lib.hid o11
  clear o11
  have RS_11 := Lib.hid u11.size
  have bx12 := (bo9.ext u11)
  have cx12_0 := bx12.cell 0 (by simp)
  have cx12_1 := bx12.cell 1 (by simp)
  have cx12_2 := bx12.cell 2 (by simp)
  have cx12_3 := bx12.cell 3 (by simp)
  go_wp2_with fail
  refine (implIsFlow_c _ xs0 _ xs1 _ ((O9.out.ext u10).ext u11).read O11.out.grid ).mono ?_
  rw [HV0.out]
  rw [HV1.out]
  rintro e w13 ⟨rfl, u13⟩
  have v13 := v11.trans u13
  have SZ13 := Lib.hid u13.size
  have bx14 := ((((((((ba0.ext u2).ext u5).ext u6).ext u7).ext u9).ext u10).ext u11).ext u13)
  have cx14_0 := bx14.cell 0 (by simp)
  have cx14_1 := bx14.cell 1 (by simp)
  have cx14_2 := bx14.cell 2 (by simp)
  have cx14_3 := bx14.cell 3 (by simp)
  have bx15 := ((bo9.ext u11).ext u13)
  have cx15_0 := bx15.cell 0 (by simp)
  have cx15_1 := bx15.cell 1 (by simp)
  have cx15_2 := bx15.cell 2 (by simp)
  have cx15_3 := bx15.cell 3 (by simp)
  have HA16 := Lib.hid ((H0.out.ext v13))
  have HX16 := Lib.hid ((((O9.out.ext u10).ext u11).ext u13).read)
  go_wp2_with fail
  go_region_held3 (fun w' => w'.cell? ⟨w.heap.size, 0, none⟩ = some (.slice ao0_0 xs0.rows.length cap0_0) ∧ w'.cell? ⟨w.heap.size, 1, none⟩ = some (.slice ao0_1 xs0.cols.length cap0_1) ∧ w'.cell? ⟨w.heap.size, 2, none⟩ = some (.slice ao0_2 xs0.lo.length cap0_2) ∧ w'.cell? ⟨w.heap.size, 3, none⟩ = some (.slice ao0_3 xs0.hi.length cap0_3) ∧ w'.cell? ⟨w9.heap.size, 0, none⟩ = some (.slice a9_0 xs0.rows.length cp9_0) ∧ w'.cell? ⟨w9.heap.size, 1, none⟩ = some (.slice a9_1 xs0.cols.length cp9_1) ∧ w'.cell? ⟨w9.heap.size, 2, none⟩ = some (.slice a9_2 xs0.lo.length cp9_2) ∧ w'.cell? ⟨w9.heap.size, 3, none⟩ = some (.slice a9_3 xs0.hi.length cp9_3))
    (first | exact ⟨Ext.cell u17 (Ext.cell u16 cx14_0), Ext.cell u17 (Ext.cell u16 cx14_1), Ext.cell u17 (Ext.cell u16 cx14_2), Ext.cell u17 (Ext.cell u16 cx14_3), Ext.cell u17 (Ext.cell u16 cx15_0), Ext.cell u17 (Ext.cell u16 cx15_1), Ext.cell u17 (Ext.cell u16 cx15_2), Ext.cell u17 (Ext.cell u16 cx15_3)⟩ | exact ⟨Ext.cell u16 cx14_0, Ext.cell u16 cx14_1, Ext.cell u16 cx14_2, Ext.cell u16 cx14_3, Ext.cell u16 cx15_0, Ext.cell u16 cx15_1, Ext.cell u16 cx15_2, Ext.cell u16 cx15_3⟩ | go_keep)
    ((first
      | (go_at_call 17; refine (toTransport_c _ xs0 _ (HA16.out.ext (Ext.refl _).drew) S0.out).mono ?_; rintro e w16 ⟨x16, rfl, o16, u16⟩)
      | (go_at_call 19; refine (eqTransport_t _ _ xs0 _ ((HX16.out.ext (Ext.refl _).drew).ext u16) o16.read).mono ?_; rintro e w17 ⟨rfl, u17⟩)))
  have e17 := ((Ext.refl w13).drew.trans u16).trans u17
  clear o16
  have v17 := v13.trans e17
  have SZ17 := Lib.hid e17.size
  go_wp2_with fail
  refine (toIntSS_c _ xs1 _ (H1.out.ext v17) S1.out.len S1.out.row).mono ?_
  rintro e w18 ⟨x18, r18, rfl, o18, u18⟩
  have v18 := v17.trans u18
  have SZ18 := Lib.hid u18.size
  have O18 := Lib.hid o18
  clear o18
  have RS_18 := Lib.hid u18.size
  go_wp2_with fail
  refine (eqIntSS_b true _ _ xs1 xs1 _ (by simp) (((O11.out.ext u13).ext e17).ext u18).grid O18.out.grid).mono ?_
  rintro e w19 ⟨rfl, d19⟩
  have u19 := Drew.ext d19
  have v19 := v18.trans u19
  have SZ19 := Lib.hid u19.size
  go_wp2
  go_ret
  exact ⟨rfl, v19⟩
end Go.Proofs.Ytmffhipfodlomaa
