/- The law on SwapRate. -/
import Derived.Test.YtkkoidoinbiikaaRateI
import Derived.Test.YtkkoidoinbiikaaRgOf
import Derived.Deep.RegionHeld3
namespace Go.Proofs.Ytkkoidoinbiikaa
open Go.RowKit

set_option maxHeartbeats 3200000 in
theorem lawSwapRate_c (v0 : Value) (xs0 : List Vr) (v1 : Value) (xs1 : List Pe) (v2 : Value) (xs2 : List (List Int)) (w : World) (h0 : Vrs w v0 xs0) (h1 : Pes w v1 xs1) (h2 : Grid w v2 xs2) (f0 : WfV xs0) (f1 : WfP xs1) (_ : WfG xs2) :
    Calls Try.prog 9 #[v0, v1, v2] w fun e w' => e = .returned (.bool true) ∧ Ext w w' := by
  have H0 := Lib.hid h0; clear h0
  have F0 := Lib.hid f0; clear f0
  have H1 := Lib.hid h1; clear h1
  have F1 := Lib.hid f1; clear f1
  have H2 := Lib.hid h2; clear h2
  have v0 := (Ext.refl w)
  obtain ⟨V0n, hV0n⟩ : ∃ V, srN xs0 xs1 xs2 = V := ⟨_, rfl⟩
  have HV0n := Lib.hid hV0n; clear hV0n
  obtain ⟨V0d, hV0d⟩ : ∃ V, srD xs0 xs1 xs2 = V := ⟨_, rfl⟩
  have HV0d := Lib.hid hV0d; clear hV0d
  obtain ⟨V1, hV1⟩ : ∃ V, srB xs0 xs1 xs2 = V := ⟨_, rfl⟩
  have HV1 := Lib.hid hV1; clear hV1
  have qv1 : (V1 != V1) = false := by simp
  go_enter Try.func9, Try.ntmps9
  go_wp2_with fail
  refine (szVariableS_c _ xs0 1048576 _ (H0.out.ext v0) F0.out (by omega)).mono ?_
  rintro e w1 ⟨t0, rfl, hr0, u1⟩
  have v1 := v0.trans u1
  have SZ1 := Lib.hid u1.size
  rcases hr0 with hr0 | ⟨hr0, hq0, hs0⟩
  · go_wp2
    go_ret
    exact ⟨rfl, v1⟩
  have hz0 : ¬ (t0 < 0) := by omega
  have tr0 : 0 ≤ t0 ∧ t0 ≤ 1048576 := by omega
  have S0 := Lib.hid hs0; clear hs0 hr0 hq0
  go_wp2_with fail
  refine (szRecordS_c _ xs1 t0 _ (H1.out.ext v1) (by omega)).mono ?_
  rintro e w2 ⟨t1, rfl, hr1, u2⟩
  have v2 := v1.trans u2
  have SZ2 := Lib.hid u2.size
  rcases hr1 with hr1 | ⟨hr1, hq1, hs1⟩
  · go_wp2
    go_ret
    exact ⟨rfl, v2⟩
  have hz1 : ¬ (t1 < 0) := by omega
  have tr1 : 0 ≤ t1 ∧ t1 ≤ 1048576 := by omega
  have S1 := Lib.hid hs1; clear hs1 hr1 hq1
  obtain ⟨t2, ht2⟩ : ∃ t, szG t1 xs2 = t := ⟨_, rfl⟩
  have T2 := Lib.hid ht2; clear ht2
  go_wp2_with fail
  refine (szIntSS_c _ xs2 t1 _ (H2.out.ext v2) (by omega)).mono ?_
  rw [T2.out]
  rintro e w2 ⟨rfl, rfl⟩
  by_cases hz2 : t2 < 0
  · go_wp2
    go_ret
    exact ⟨rfl, v2⟩
  have tr2 : 0 ≤ t2 ∧ t2 ≤ 1048576 := by have h1 := T2.out; have h2 := szG_range (left := t1) (xss := xs2) (by omega); omega
  have S2 := Lib.hid (Small.of_szG (left := t1) (xss := xs2) (by omega) (by have h1 := T2.out; omega))
  go_wp2_with fail
  refine (toVariableS_c _ xs0 _ (H0.out.ext v2) S0.out.1).mono ?_
  rintro e w4 ⟨x4, rfl, o4, u4⟩
  have v4 := v2.trans u4
  have SZ4 := Lib.hid u4.size
  have O4 := Lib.hid o4
  clear o4
  have RS_4 := Lib.hid u4.size
  go_wp2_with fail
  refine (toRecordS_c _ xs1 _ (H1.out.ext v4) S1.out).mono ?_
  rintro e w5 ⟨x5, r5, rfl, o5, u5⟩
  have v5 := v4.trans u5
  have SZ5 := Lib.hid u5.size
  have O5 := Lib.hid o5
  clear o5
  have RS_5 := Lib.hid u5.size
  go_wp2_with fail
  refine (toIntSS_c _ xs2 _ (H2.out.ext v5) S2.out.len S2.out.row).mono ?_
  rintro e w6 ⟨x6, r6, rfl, o6, u6⟩
  have v6 := v5.trans u6
  have SZ6 := Lib.hid u6.size
  have O6 := Lib.hid o6
  clear o6
  have RS_6 := Lib.hid u6.size
  go_wp2_with fail
  refine (specSwapRate_c _ xs0 _ xs1 _ xs2 _ ((O4.out.ext u5).ext u6).read (O5.out.ext u6).read O6.out.grid F0.out ).mono ?_
  rw [HV0n.out]
  rw [HV0d.out]
  rw [HV1.out]
  rintro e w7 ⟨rfl, u7⟩
  have v7 := v6.trans u7
  have SZ7 := Lib.hid u7.size
  have bo7 := Box.new w7 64 #[.int .i64 V0n, .int .i64 V0d] rfl
  have u8 := (Ext.refl w7).alloc (.cells #[.int .i64 V0n, .int .i64 V0d] 64)
  have v8 := v7.trans u8
  have SZ8 := Lib.hid u8.size
  have SA8 : Hid ((w7.alloc (.cells #[.int .i64 V0n, .int .i64 V0d] 64)).heap.size = w7.heap.size + 1) := Lib.hid (by simp)
  go_wp2_with fail
  refine (toVariableS_c _ xs0 _ (H0.out.ext v8) S0.out.1).mono ?_
  rintro e w9 ⟨x9, rfl, o9, u9⟩
  have v9 := v8.trans u9
  have SZ9 := Lib.hid u9.size
  have O9 := Lib.hid o9
  clear o9
  have RS_9 := Lib.hid u9.size
  go_wp2_with fail
  refine (toRecordS_c _ xs1 _ (H1.out.ext v9) S1.out).mono ?_
  rintro e w10 ⟨x10, r10, rfl, o10, u10⟩
  have v10 := v9.trans u10
  have SZ10 := Lib.hid u10.size
  have O10 := Lib.hid o10
  clear o10
  have RS_10 := Lib.hid u10.size
  go_wp2_with fail
  refine (toIntSS_c _ xs2 _ (H2.out.ext v10) S2.out.len S2.out.row).mono ?_
  rintro e w11 ⟨x11, r11, rfl, o11, u11⟩
  have v11 := v10.trans u11
  have SZ11 := Lib.hid u11.size
  have O11 := Lib.hid o11
  clear o11
  have RS_11 := Lib.hid u11.size
  go_wp2_with fail
  refine (implSwapRate_c _ xs0 _ xs1 _ xs2 _ ((O9.out.ext u10).ext u11).read (O10.out.ext u11).read O11.out.grid F0.out ).mono ?_
  rw [HV0n.out]
  rw [HV0d.out]
  rw [HV1.out]
  rintro e w12 ⟨rfl, u12⟩
  have v12 := v11.trans u12
  have SZ12 := Lib.hid u12.size
  have bo12 := Box.new w12 64 #[.int .i64 V0n, .int .i64 V0d] rfl
  have u13 := (Ext.refl w12).alloc (.cells #[.int .i64 V0n, .int .i64 V0d] 64)
  have v13 := v12.trans u13
  have SZ13 := Lib.hid u13.size
  have SA13 : Hid ((w12.alloc (.cells #[.int .i64 V0n, .int .i64 V0d] 64)).heap.size = w12.heap.size + 1) := Lib.hid (by simp)
  have bx14 := bo12
  have cx14_0 := bx14.cell 0 (by simp)
  have cx14_1 := bx14.cell 1 (by simp)
  have bx15 := (((((bo7.ext u9).ext u10).ext u11).ext u12).ext u13)
  have cx15_0 := bx15.cell 0 (by simp)
  have cx15_1 := bx15.cell 1 (by simp)
  go_wp2_with fail
  refine (eqFrac_b true V0n V0d V0n V0d _ (by simp)).mono ?_
  rintro e w16 ⟨rfl, u16⟩
  have v16 := v13.trans u16
  have SZ16 := Lib.hid u16.size
  go_wp2_with fail
  refine (toVariableS_c _ xs0 _ (H0.out.ext v16) S0.out.1).mono ?_
  rintro e w17 ⟨x17, rfl, o17, u17⟩
  have v17 := v16.trans u17
  have SZ17 := Lib.hid u17.size
  have O17 := Lib.hid o17
  clear o17
  have RS_17 := Lib.hid u17.size
  go_wp2_with fail
  refine (eqVariableS_t _ _ xs0 _ ((((((O9.out.ext u10).ext u11).ext u12).ext u13).ext u16).ext u17).read O17.out.read).mono ?_
  rintro e w18 ⟨rfl, u18⟩
  have v18 := v17.trans u18
  have SZ18 := Lib.hid u18.size
  go_wp2_with fail
  refine (toRecordS_c _ xs1 _ (H1.out.ext v18) S1.out).mono ?_
  rintro e w19 ⟨x19, r19, rfl, o19, u19⟩
  have v19 := v18.trans u19
  have SZ19 := Lib.hid u19.size
  have O19 := Lib.hid o19
  clear o19
  have RS_19 := Lib.hid u19.size
  go_wp2_with fail
  refine (eqRecordS_t _ _ xs1 _ (((((((O10.out.ext u11).ext u12).ext u13).ext u16).ext u17).ext u18).ext u19).read O19.out.read).mono ?_
  rintro e w20 ⟨rfl, u20⟩
  have v20 := v19.trans u20
  have SZ20 := Lib.hid u20.size
  go_wp2_with fail
  refine (toIntSS_c _ xs2 _ (H2.out.ext v20) S2.out.len S2.out.row).mono ?_
  rintro e w21 ⟨x21, r21, rfl, o21, u21⟩
  have v21 := v20.trans u21
  have SZ21 := Lib.hid u21.size
  have O21 := Lib.hid o21
  clear o21
  have RS_21 := Lib.hid u21.size
  go_wp2_with fail
  refine (eqIntSS_b true _ _ xs2 xs2 _ (by simp) ((((((((O11.out.ext u12).ext u13).ext u16).ext u17).ext u18).ext u19).ext u20).ext u21).grid O21.out.grid).mono ?_
  rintro e w22 ⟨rfl, d22⟩
  have u22 := Drew.ext d22
  have v22 := v21.trans u22
  have SZ22 := Lib.hid u22.size
  go_wp2
  go_ret
  exact ⟨rfl, v22⟩
end Go.Proofs.Ytkkoidoinbiikaa
