/- The laws on PossibleCounts and PerturbCounts. -/
import Derived.Test.YtabfnpndfknjaaaPoss
import Derived.Test.YtabfnpndfknjaaaPerturb
import Derived.Test.YtabfnpndfknjaaaNtLaw
import Derived.Deep.RegionHeld3
namespace Go.Proofs.Ytabfnpndfknjaaa
open Go.RowKit

theorem poss_len (xss : List (List Int)) (seen : Int) : (possV xss seen).length ≤ 1048576 := by
  unfold possV
  split
  · have := possTo_length xss seen (possLo seen) (possHi seen + 1 - possLo seen).toNat
    rename_i h
    have hs : 0 ≤ seen ∧ seen ≤ 1000000 := by simp only [possB, Bool.and_eq_true, decide_eq_true_eq] at h; exact h.2
    unfold poss
    have h2 : possHi seen ≤ seen + 5 := by unfold possHi imin; omega
    have h3 : seen - 5 ≤ possLo seen := by unfold possLo imax; omega
    omega
  · simp
theorem pert_len (xss : List (List Int)) (cs ks : List Int) : (pertV xss cs ks).length ≤ 1048576 := by
  unfold pertV
  split
  · rename_i h
    have : cs.length ≤ 1000 := by simp only [pertB, decide_eq_true_eq] at h; exact h.2.1
    rw [pert_length]; omega
  · simp
set_option maxHeartbeats 3200000 in
theorem lawPossibleCounts_c (v0 : Value) (xs0 : List (List Int)) (a1 : Int) (w : World) (h0 : Grid w v0 xs0) (_ : WfG xs0) (i1 : -9223372036854775808 ≤ a1 ∧ a1 ≤ 9223372036854775807) :
    Calls Try.prog 5 #[.agg #[v0], .int .i64 a1] w fun e w' => e = .returned (.bool true) ∧ Ext w w' := by
  have H0 := Lib.hid h0
  obtain ⟨ao0, cap0, rfl, p0, q0, r0⟩ := h0
  clear r0
  have I1 := Lib.hid i1; clear i1
  have ba0 := Box.new w 41 #[.slice ao0 xs0.length cap0] rfl
  have v0 := ((Ext.refl w).alloc (.cells #[.slice ao0 xs0.length cap0] 41))
  have SZ0_0 : Hid ((w.alloc (.cells #[.slice ao0 xs0.length cap0] 41)).heap.size = w.heap.size + 1) := Lib.hid (by simp)
  obtain ⟨t0, ht0⟩ : ∃ t, szG 1048576 xs0 = t := ⟨_, rfl⟩
  have T0 := Lib.hid ht0; clear ht0
  by_cases hz0 : t0 < 0
  · go_enter Try.func5, Try.ntmps5
    go_wp2_with fail
    refine (szNoiseTable_c _ xs0 1048576 _ (H0.out.ext v0) (by omega)).mono ?_
    rw [T0.out]
    rintro e w1 ⟨rfl, u1⟩
    have v1 := v0.trans u1
    have SZ1 := Lib.hid u1.size
    go_wp2
    go_ret
    exact ⟨rfl, v1⟩
  have tr0 : 0 ≤ t0 ∧ t0 ≤ 1048576 := by have h1 := T0.out; have h2 := szG_range (left := 1048576) (xss := xs0) (by omega); omega
  have S0 := Lib.hid (Small.of_szG (left := 1048576) (xss := xs0) (by omega) (by have h1 := T0.out; omega))
  obtain ⟨V0, hV0⟩ : ∃ V, possV xs0 a1 = V := ⟨_, rfl⟩
  have HV0 := Lib.hid hV0; clear hV0
  obtain ⟨V1, hV1⟩ : ∃ V, possB xs0 a1 = V := ⟨_, rfl⟩
  have HV1 := Lib.hid hV1; clear hV1
  have qv1 : (V1 != V1) = false := by simp
  obtain ⟨k0, hk0⟩ : ∃ k, 1 + (psum xs0 xs0.length : Int) = k := ⟨_, rfl⟩
  have kb0 : 1 ≤ k0 ∧ k0 ≤ 1048577 := by have h1 := S0.out.psum xs0.length (Nat.le_refl _); omega
  have HK0 := Lib.hid hk0; clear hk0
  have kn : ¬ (k0 < 0) := by omega
  have kd : decide (k0 < 0) = false := by simp; omega
  have RS0 := Lib.hid (show V0.length ≤ 1048576 by rw [← HV0.out]; exact poss_len _ _)
  obtain ⟨m0, hm0⟩ : ∃ m, 1 + (V0.length : Int) = m := ⟨_, rfl⟩
  have mb0 : 1 ≤ m0 ∧ m0 ≤ 1048577 := by have h1 := RS0.out; omega
  have HM0 := Lib.hid hm0; clear hm0
  have mn0 : ¬ (m0 < 0) := by omega
  have md0 : decide (m0 < 0) = false := by simp; omega
  have mq : (m0 != m0) = false := by simp
  go_enter Try.func5, Try.ntmps5
  go_wp2_with fail
  refine (szNoiseTable_c _ xs0 1048576 _ (H0.out.ext v0) (by omega)).mono ?_
  rw [T0.out]
  rintro e w1 ⟨rfl, u1⟩
  have v1 := v0.trans u1
  have SZ1 := Lib.hid u1.size
  have bx2 := (ba0.ext u1)
  have cx2_0 := bx2.cell 0 (by simp)
  go_wp2_with fail
  refine (toNoiseTable_c _ xs0 _ (H0.out.ext v1) S0.out).mono ?_
  rintro e w3 ⟨x3, r3, rfl, o3, u3⟩
  have v3 := v1.trans u3
  have SZ3 := Lib.hid u3.size
  have O3 := Lib.hid o3
  clear o3
  have RS_3 := Lib.hid u3.size
  go_wp2_with fail
  refine (specPoss_c _ xs0 a1 _ O3.out.grid ).mono ?_
  rw [HV0.out]
  rw [HV1.out]
  rintro e w4 ⟨x4, rfl, o4, u4⟩
  have v4 := v3.trans u4
  have SZ4 := Lib.hid u4.size
  have O4 := Lib.hid o4
  clear o4
  have RS_4 := Lib.hid u4.size
  have bx5 := (((ba0.ext u1).ext u3).ext u4)
  have cx5_0 := bx5.cell 0 (by simp)
  go_wp2_with fail
  refine (toNoiseTable_c _ xs0 _ (H0.out.ext v4) S0.out).mono ?_
  rintro e w6 ⟨x6, r6, rfl, o6, u6⟩
  have v6 := v4.trans u6
  have SZ6 := Lib.hid u6.size
  have O6 := Lib.hid o6
  clear o6
  have RS_6 := Lib.hid u6.size
  obtain ⟨a6_, cp6, hxx6, qa6, qb6, qc6⟩ := O6.out
  subst hxx6; clear qc6
  have bo6 := Box.new w6 46 #[.slice a6_ xs0.length cp6] rfl
  have u7 := (Ext.refl w6).alloc (.cells #[.slice a6_ xs0.length cp6] 46)
  have v7 := v6.trans u7
  have SZ7 := Lib.hid u7.size
  have SA7 : Hid ((w6.alloc (.cells #[.slice a6_ xs0.length cp6] 46)).heap.size = w6.heap.size + 1) := Lib.hid (by simp)
  have bx8 := bo6
  have cx8_0 := bx8.cell 0 (by simp)
  go_wp2_with fail
  refine (implPoss_c _ xs0 a1 _ (O6.out.ext u7).grid ).mono ?_
  rw [HV0.out]
  rw [HV1.out]
  rintro e w9 ⟨x9, rfl, o9, u9⟩
  have v9 := v7.trans u9
  have SZ9 := Lib.hid u9.size
  have O9 := Lib.hid o9
  clear o9
  have RS_9 := Lib.hid u9.size
  go_wp2_with fail
  refine (eqIntS_b true _ _ V0 V0 _ (by simp) O9.out.ints (((O4.out.ext u6).ext u7).ext u9).ints).mono ?_
  rintro e w10 ⟨rfl, d10⟩
  have u10 := Drew.ext d10
  have v10 := v9.trans u10
  have SZ10 := Lib.hid u10.size
  have bx11 := (((((((ba0.ext u1).ext u3).ext u4).ext u6).ext u7).ext u9).ext u10)
  have cx11_0 := bx11.cell 0 (by simp)
  have bx12 := ((bo6.ext u9).ext u10)
  have cx12_0 := bx12.cell 0 (by simp)
  have HA13 := Lib.hid ((H0.out.ext v10))
  have HX13 := Lib.hid ((((O6.out.ext u7).ext u9).ext u10).grid)
  go_wp2_with fail
  go_region_held3 (fun w' => w'.cell? ⟨w.heap.size, 0, none⟩ = some (.slice ao0 xs0.length cap0) ∧ w'.cell? ⟨w6.heap.size, 0, none⟩ = some (.slice a6_ xs0.length cp6))
    (first | go_keep | exact ⟨Ext.cell u14 (Ext.cell u13 cx11_0), Ext.cell u14 (Ext.cell u13 cx12_0)⟩ | exact ⟨Ext.cell u13 cx11_0, Ext.cell u13 cx12_0⟩)
    ((first
      | (go_at_call 25; refine (toNoiseTable_c _ xs0 _ (HA13.out.ext (Ext.refl _).drew) S0.out).mono ?_; rintro e w13 ⟨x13, r13, rfl, o13, u13⟩)
      | (go_at_call 28; refine (eqNoiseTable_b true _ _ xs0 xs0 _ (by simp) ((Grid.ext HX13.out (Ext.refl _).drew).ext u13) o13.grid).mono ?_; rintro e w14 ⟨rfl, u14⟩)))
  have e14 := ((Ext.refl w10).drew.trans u13).trans u14
  clear o13
  have v14 := v10.trans e14
  have SZ14 := Lib.hid e14.size
  have bx15 := (((bo6.ext u9).ext u10).ext e14)
  have cx15_0 := bx15.cell 0 (by simp)
  go_wp2_with fail
  refine (markNoiseTable_c _ _ _ _ xs0 1 _ ((((O6.out.ext u7).ext u9).ext u10).ext e14) S0.out (by omega)).mono ?_
  rw [HK0.out]
  rintro e w16 ⟨rfl, ⟨ys16, o16, mk16⟩, u16⟩
  have OM16 := Lib.hid o16; clear o16
  have MK16 := Lib.hid mk16; clear mk16
  have U16 := Lib.hid u16; clear u16
  have RG16 : Hid (∀ b, rowBlks r6 xs0 b → _ ∧ b < _) := Lib.hid (fun b hb => by have := O6.out.blks hb; exact ⟨this.1, this.2.1⟩)
  have v16 := v14.of_upd U16.out (fun b hb => by have := RG16.out b hb; have := SZ0_0.out; have := SZ1.out; have := SZ3.out; have := SZ4.out; have := SZ6.out; have := SZ7.out; have := SA7.out; have := SZ9.out; have := SZ10.out; have := SZ14.out; omega)
  have SZ16 := Lib.hid U16.out.size
  go_wp2_with fail
  refine (eqIntS_b true _ _ V0 V0 _ (by simp) (((O9.out.ext u10).ext e14).away U16.out (fun b hb => by have := RG16.out b hb; have := RS_6.out; have := RS_9.out; have := SZ0_0.out; have := SZ1.out; have := SZ3.out; have := SZ4.out; have := SZ6.out; have := SZ7.out; have := SA7.out; have := SZ9.out; have := SZ10.out; have := SZ14.out; have := SZ16.out; omega)).ints ((((((O4.out.ext u6).ext u7).ext u9).ext u10).ext e14).away U16.out (fun b hb => by have := RG16.out b hb; have := RS_6.out; have := RS_4.out; have := SZ0_0.out; have := SZ1.out; have := SZ3.out; have := SZ4.out; have := SZ6.out; have := SZ7.out; have := SA7.out; have := SZ9.out; have := SZ10.out; have := SZ14.out; have := SZ16.out; omega)).ints).mono ?_
  rintro e w17 ⟨rfl, d17⟩
  have u17 := Drew.ext d17
  have v17 := v16.trans u17
  have SZ17 := Lib.hid u17.size
  go_wp2_with fail
  refine (markIntS_c _ _ _ V0 1 _ ((((O9.out.ext u10).ext e14).away U16.out (fun b hb => by have := RG16.out b hb; have := RS_6.out; have := RS_9.out; have := SZ0_0.out; have := SZ1.out; have := SZ3.out; have := SZ4.out; have := SZ6.out; have := SZ7.out; have := SA7.out; have := SZ9.out; have := SZ10.out; have := SZ14.out; have := SZ16.out; have := SZ17.out; omega)).ext u17) RS0.out (by omega)).mono ?_
  rw [HM0.out]
  rintro e w18 ⟨rfl, o18, u18⟩
  have OM18 := Lib.hid o18; clear o18
  have U18 := Lib.hid u18; clear u18
  have RG18 : Hid (∀ b, (V0 ≠ [] ∧ b = blk x9) → _ ∧ b < _) := Lib.hid (fun b hb => by have := O9.out.range hb.1; rw [hb.2]; exact ⟨this.1, this.2.1⟩)
  have v18 := v17.of_upd U18.out (fun b hb => by have := RG18.out b hb; have := SZ0_0.out; have := SZ1.out; have := SZ3.out; have := SZ4.out; have := SZ6.out; have := SZ7.out; have := SA7.out; have := SZ9.out; have := SZ10.out; have := SZ14.out; have := SZ16.out; have := SZ17.out; omega)
  have SZ18 := Lib.hid U18.out.size
  go_wp2_with fail
  refine (heldIntS_c _ V0.length 1 _ OM18.out.ints RS0.out (by omega)).mono ?_
  rw [HM0.out]
  rintro e w18 ⟨rfl, rfl⟩
  have bx20 := (((((((((((ba0.ext u1).ext u3).ext u4).ext u6).ext u7).ext u9).ext u10).ext e14).upd U16.out (fun hb => by have := RG16.out _ hb; have := RS_6.out; have := SZ0_0.out; have := SZ1.out; have := SZ3.out; have := SZ4.out; have := SZ6.out; have := SZ7.out; have := SA7.out; have := SZ9.out; have := SZ10.out; have := SZ14.out; have := SZ16.out; have := SZ17.out; have := SZ18.out; omega)).ext u17).upd U18.out (fun hb => by have := RG18.out _ hb; have := RS_9.out; have := SZ0_0.out; have := SZ1.out; have := SZ3.out; have := SZ4.out; have := SZ6.out; have := SZ7.out; have := SA7.out; have := SZ9.out; have := SZ10.out; have := SZ14.out; have := SZ16.out; have := SZ17.out; have := SZ18.out; omega))
  have cx20_0 := bx20.cell 0 (by simp)
  go_wp2_with fail
  refine (toNoiseTable_c _ xs0 _ (H0.out.ext v18) S0.out).mono ?_
  rintro e w21 ⟨x21, r21, rfl, o21, u21⟩
  have v21 := v18.trans u21
  have SZ21 := Lib.hid u21.size
  have O21 := Lib.hid o21
  clear o21
  have RS_21 := Lib.hid u21.size
  go_wp2_with fail
  refine (implPoss_c _ xs0 a1 _ O21.out.grid ).mono ?_
  rw [HV0.out]
  rw [HV1.out]
  rintro e w22 ⟨x22, rfl, o22, u22⟩
  have v22 := v21.trans u22
  have SZ22 := Lib.hid u22.size
  have O22 := Lib.hid o22
  clear o22
  have RS_22 := Lib.hid u22.size
  go_wp2_with fail
  refine (eqIntS_b true _ _ V0 V0 _ (by simp) O22.out.ints ((((((((((O4.out.ext u6).ext u7).ext u9).ext u10).ext e14).away U16.out (fun b hb => by have := RG16.out b hb; have := RS_6.out; have := RS_4.out; have := SZ0_0.out; have := SZ1.out; have := SZ3.out; have := SZ4.out; have := SZ6.out; have := SZ7.out; have := SA7.out; have := SZ9.out; have := SZ10.out; have := SZ14.out; have := SZ16.out; have := SZ17.out; have := SZ18.out; have := SZ21.out; have := SZ22.out; omega)).ext u17).away U18.out (fun b hb => by have := RG18.out b hb; have := RS_9.out; have := RS_4.out; have := SZ0_0.out; have := SZ1.out; have := SZ3.out; have := SZ4.out; have := SZ6.out; have := SZ7.out; have := SA7.out; have := SZ9.out; have := SZ10.out; have := SZ14.out; have := SZ16.out; have := SZ17.out; have := SZ18.out; have := SZ21.out; have := SZ22.out; omega)).ext u21).ext u22).ints).mono ?_
  rintro e w23 ⟨rfl, d23⟩
  have u23 := Drew.ext d23
  have v23 := v22.trans u23
  have SZ23 := Lib.hid u23.size
  go_wp2_with fail
  refine (heldIntS_c _ V0.length 1 _ (((OM18.out.ext u21).ext u22).ext u23).ints RS0.out (by omega)).mono ?_
  rw [HM0.out]
  rintro e w23 ⟨rfl, rfl⟩
  go_wp2
  go_ret
  exact ⟨rfl, v23⟩
set_option maxHeartbeats 3200000 in
theorem lawPerturbCounts_c (v0 : Value) (xs0 : List (List Int)) (v1 : Value) (xs1 : List Int) (v2 : Value) (xs2 : List Int) (w : World) (h0 : Grid w v0 xs0) (h1 : Ints w v1 xs1) (h2 : Ints w v2 xs2) (_ : WfG xs0) (_ : Wf xs1) (_ : Wf xs2) :
    Calls Try.prog 6 #[.agg #[v0], v1, v2] w fun e w' => e = .returned (.bool true) ∧ Ext w w' := by
  have H0 := Lib.hid h0
  obtain ⟨ao0, cap0, rfl, p0, q0, r0⟩ := h0
  clear r0
  have H1 := Lib.hid h1
  obtain ⟨ao1, cap1, rfl, p1, q1, r1⟩ := h1
  clear r1
  have H2 := Lib.hid h2
  obtain ⟨ao2, cap2, rfl, p2, q2, r2⟩ := h2
  clear r2
  have ba0 := Box.new w 41 #[.slice ao0 xs0.length cap0] rfl
  have v0 := ((Ext.refl w).alloc (.cells #[.slice ao0 xs0.length cap0] 41))
  have SZ0_0 : Hid ((w.alloc (.cells #[.slice ao0 xs0.length cap0] 41)).heap.size = w.heap.size + 1) := Lib.hid (by simp)
  by_cases hl1 : (1048576 : Int) < (xs1.length : Int)
  · go_enter Try.func6, Try.ntmps6
    go_wp2
    go_ret
    exact ⟨rfl, v0⟩
  have L1 := Lib.hid (show xs1.length ≤ 1048576 by omega)
  by_cases hl2 : (1048576 : Int) < (xs2.length : Int)
  · go_enter Try.func6, Try.ntmps6
    go_wp2
    go_ret
    exact ⟨rfl, v0⟩
  have L2 := Lib.hid (show xs2.length ≤ 1048576 by omega)
  obtain ⟨t0, ht0⟩ : ∃ t, szG 1048576 xs0 = t := ⟨_, rfl⟩
  have T0 := Lib.hid ht0; clear ht0
  by_cases hz0 : t0 < 0
  · go_enter Try.func6, Try.ntmps6
    go_wp2_with fail
    refine (szNoiseTable_c _ xs0 1048576 _ (H0.out.ext v0) (by omega)).mono ?_
    rw [T0.out]
    rintro e w1 ⟨rfl, u1⟩
    have v1 := v0.trans u1
    have SZ1 := Lib.hid u1.size
    go_wp2
    go_ret
    exact ⟨rfl, v1⟩
  have tr0 : 0 ≤ t0 ∧ t0 ≤ 1048576 := by have h1 := T0.out; have h2 := szG_range (left := 1048576) (xss := xs0) (by omega); omega
  have S0 := Lib.hid (Small.of_szG (left := 1048576) (xss := xs0) (by omega) (by have h1 := T0.out; omega))
  obtain ⟨V0, hV0⟩ : ∃ V, pertV xs0 xs1 xs2 = V := ⟨_, rfl⟩
  have HV0 := Lib.hid hV0; clear hV0
  obtain ⟨V1, hV1⟩ : ∃ V, pertB xs0 xs1 xs2 = V := ⟨_, rfl⟩
  have HV1 := Lib.hid hV1; clear hV1
  have qv1 : (V1 != V1) = false := by simp
  obtain ⟨k0, hk0⟩ : ∃ k, 1 + (psum xs0 xs0.length : Int) = k := ⟨_, rfl⟩
  have kb0 : 1 ≤ k0 ∧ k0 ≤ 1048577 := by have h1 := S0.out.psum xs0.length (Nat.le_refl _); omega
  have HK0 := Lib.hid hk0; clear hk0
  obtain ⟨k1, hk1⟩ : ∃ k, k0 + (xs1.length : Int) = k := ⟨_, rfl⟩
  have kb1 : 1 ≤ k1 ∧ k1 ≤ 2097153 := by have h1 := L1.out; omega
  have HK1 := Lib.hid hk1; clear hk1
  obtain ⟨k2, hk2⟩ : ∃ k, k1 + (xs2.length : Int) = k := ⟨_, rfl⟩
  have kb2 : 1 ≤ k2 ∧ k2 ≤ 3145729 := by have h1 := L2.out; omega
  have HK2 := Lib.hid hk2; clear hk2
  have kn : ¬ (k2 < 0) := by omega
  have kd : decide (k2 < 0) = false := by simp; omega
  have RS0 := Lib.hid (show V0.length ≤ 1048576 by rw [← HV0.out]; exact pert_len _ _ _)
  obtain ⟨m0, hm0⟩ : ∃ m, 1 + (V0.length : Int) = m := ⟨_, rfl⟩
  have mb0 : 1 ≤ m0 ∧ m0 ≤ 1048577 := by have h1 := RS0.out; omega
  have HM0 := Lib.hid hm0; clear hm0
  have mn0 : ¬ (m0 < 0) := by omega
  have md0 : decide (m0 < 0) = false := by simp; omega
  have mq : (m0 != m0) = false := by simp
  go_enter Try.func6, Try.ntmps6
  go_wp2_with fail
  refine (szNoiseTable_c _ xs0 1048576 _ (H0.out.ext v0) (by omega)).mono ?_
  rw [T0.out]
  rintro e w1 ⟨rfl, u1⟩
  have v1 := v0.trans u1
  have SZ1 := Lib.hid u1.size
  have bx2 := (ba0.ext u1)
  have cx2_0 := bx2.cell 0 (by simp)
  go_wp2_with fail
  refine (toNoiseTable_c _ xs0 _ (H0.out.ext v1) S0.out).mono ?_
  rintro e w3 ⟨x3, r3, rfl, o3, u3⟩
  have v3 := v1.trans u3
  have SZ3 := Lib.hid u3.size
  have O3 := Lib.hid o3
  clear o3
  have RS_3 := Lib.hid u3.size
  go_wp2_with fail
  refine (toIntS_c _ xs1 _ (H1.out.ext v3) L1.out).mono ?_
  rintro e w4 ⟨x4, rfl, o4, u4⟩
  have v4 := v3.trans u4
  have SZ4 := Lib.hid u4.size
  have O4 := Lib.hid o4
  clear o4
  have RS_4 := Lib.hid u4.size
  go_wp2_with fail
  refine (toIntS_c _ xs2 _ (H2.out.ext v4) L2.out).mono ?_
  rintro e w5 ⟨x5, rfl, o5, u5⟩
  have v5 := v4.trans u5
  have SZ5 := Lib.hid u5.size
  have O5 := Lib.hid o5
  clear o5
  have RS_5 := Lib.hid u5.size
  go_wp2_with fail
  refine (specPerturb_c _ xs0 _ xs1 _ xs2 _ ((O3.out.ext u4).ext u5).grid (O4.out.ext u5).ints O5.out.ints ).mono ?_
  rw [HV0.out]
  rw [HV1.out]
  rintro e w6 ⟨x6, rfl, o6, u6⟩
  have v6 := v5.trans u6
  have SZ6 := Lib.hid u6.size
  have O6 := Lib.hid o6
  clear o6
  have RS_6 := Lib.hid u6.size
  have bx7 := (((((ba0.ext u1).ext u3).ext u4).ext u5).ext u6)
  have cx7_0 := bx7.cell 0 (by simp)
  go_wp2_with fail
  refine (toNoiseTable_c _ xs0 _ (H0.out.ext v6) S0.out).mono ?_
  rintro e w8 ⟨x8, r8, rfl, o8, u8⟩
  have v8 := v6.trans u8
  have SZ8 := Lib.hid u8.size
  have O8 := Lib.hid o8
  clear o8
  have RS_8 := Lib.hid u8.size
  obtain ⟨a8_, cp8, hxx8, qa8, qb8, qc8⟩ := O8.out
  subst hxx8; clear qc8
  have bo8 := Box.new w8 46 #[.slice a8_ xs0.length cp8] rfl
  have u9 := (Ext.refl w8).alloc (.cells #[.slice a8_ xs0.length cp8] 46)
  have v9 := v8.trans u9
  have SZ9 := Lib.hid u9.size
  have SA9 : Hid ((w8.alloc (.cells #[.slice a8_ xs0.length cp8] 46)).heap.size = w8.heap.size + 1) := Lib.hid (by simp)
  go_wp2_with fail
  refine (toIntS_c _ xs1 _ (H1.out.ext v9) L1.out).mono ?_
  rintro e w10 ⟨x10, rfl, o10, u10⟩
  have v10 := v9.trans u10
  have SZ10 := Lib.hid u10.size
  have O10 := Lib.hid o10
  clear o10
  have RS_10 := Lib.hid u10.size
  go_wp2_with fail
  refine (toIntS_c _ xs2 _ (H2.out.ext v10) L2.out).mono ?_
  rintro e w11 ⟨x11, rfl, o11, u11⟩
  have v11 := v10.trans u11
  have SZ11 := Lib.hid u11.size
  have O11 := Lib.hid o11
  clear o11
  have RS_11 := Lib.hid u11.size
  have bx12 := ((bo8.ext u10).ext u11)
  have cx12_0 := bx12.cell 0 (by simp)
  go_wp2_with fail
  refine (implPerturb_c _ xs0 _ xs1 _ xs2 _ (((O8.out.ext u9).ext u10).ext u11).grid (O10.out.ext u11).ints O11.out.ints ).mono ?_
  rw [HV0.out]
  rw [HV1.out]
  rintro e w13 ⟨x13, rfl, o13, u13⟩
  have v13 := v11.trans u13
  have SZ13 := Lib.hid u13.size
  have O13 := Lib.hid o13
  clear o13
  have RS_13 := Lib.hid u13.size
  go_wp2_with fail
  refine (eqIntS_b true _ _ V0 V0 _ (by simp) O13.out.ints (((((O6.out.ext u8).ext u9).ext u10).ext u11).ext u13).ints).mono ?_
  rintro e w14 ⟨rfl, d14⟩
  have u14 := Drew.ext d14
  have v14 := v13.trans u14
  have SZ14 := Lib.hid u14.size
  have bx15 := (((((((((((ba0.ext u1).ext u3).ext u4).ext u5).ext u6).ext u8).ext u9).ext u10).ext u11).ext u13).ext u14)
  have cx15_0 := bx15.cell 0 (by simp)
  have bx16 := ((((bo8.ext u10).ext u11).ext u13).ext u14)
  have cx16_0 := bx16.cell 0 (by simp)
  have HA17 := Lib.hid ((H0.out.ext v14))
  have HX17 := Lib.hid ((((((O8.out.ext u9).ext u10).ext u11).ext u13).ext u14).grid)
  go_wp2_with fail
  go_region_held3 (fun w' => w'.cell? ⟨w.heap.size, 0, none⟩ = some (.slice ao0 xs0.length cap0) ∧ w'.cell? ⟨w8.heap.size, 0, none⟩ = some (.slice a8_ xs0.length cp8))
    (first | go_keep | exact ⟨Ext.cell u18 (Ext.cell u17 cx15_0), Ext.cell u18 (Ext.cell u17 cx16_0)⟩ | exact ⟨Ext.cell u17 cx15_0, Ext.cell u17 cx16_0⟩)
    ((first
      | (go_at_call 25; refine (toNoiseTable_c _ xs0 _ (HA17.out.ext (Ext.refl _).drew) S0.out).mono ?_; rintro e w17 ⟨x17, r17, rfl, o17, u17⟩)
      | (go_at_call 28; refine (eqNoiseTable_b true _ _ xs0 xs0 _ (by simp) ((Grid.ext HX17.out (Ext.refl _).drew).ext u17) o17.grid).mono ?_; rintro e w18 ⟨rfl, u18⟩)))
  have e18 := ((Ext.refl w14).drew.trans u17).trans u18
  clear o17
  have v18 := v14.trans e18
  have SZ18 := Lib.hid e18.size
  go_wp2_with fail
  refine (toIntS_c _ xs1 _ (H1.out.ext v18) L1.out).mono ?_
  rintro e w19 ⟨x19, rfl, o19, u19⟩
  have v19 := v18.trans u19
  have SZ19 := Lib.hid u19.size
  have O19 := Lib.hid o19
  clear o19
  have RS_19 := Lib.hid u19.size
  go_wp2_with fail
  refine (eqIntS_b true _ _ xs1 xs1 _ (by simp) (((((O10.out.ext u11).ext u13).ext u14).ext e18).ext u19).ints O19.out.ints).mono ?_
  rintro e w20 ⟨rfl, d20⟩
  have u20 := Drew.ext d20
  have v20 := v19.trans u20
  have SZ20 := Lib.hid u20.size
  go_wp2_with fail
  refine (toIntS_c _ xs2 _ (H2.out.ext v20) L2.out).mono ?_
  rintro e w21 ⟨x21, rfl, o21, u21⟩
  have v21 := v20.trans u21
  have SZ21 := Lib.hid u21.size
  have O21 := Lib.hid o21
  clear o21
  have RS_21 := Lib.hid u21.size
  go_wp2_with fail
  refine (eqIntS_b true _ _ xs2 xs2 _ (by simp) ((((((O11.out.ext u13).ext u14).ext e18).ext u19).ext u20).ext u21).ints O21.out.ints).mono ?_
  rintro e w22 ⟨rfl, d22⟩
  have u22 := Drew.ext d22
  have v22 := v21.trans u22
  have SZ22 := Lib.hid u22.size
  have bx23 := (((((((((bo8.ext u10).ext u11).ext u13).ext u14).ext e18).ext u19).ext u20).ext u21).ext u22)
  have cx23_0 := bx23.cell 0 (by simp)
  go_wp2_with fail
  refine (markNoiseTable_c _ _ _ _ xs0 1 _ ((((((((((O8.out.ext u9).ext u10).ext u11).ext u13).ext u14).ext e18).ext u19).ext u20).ext u21).ext u22) S0.out (by omega)).mono ?_
  rw [HK0.out]
  rintro e w24 ⟨rfl, ⟨ys24, o24, mk24⟩, u24⟩
  have OM24 := Lib.hid o24; clear o24
  have MK24 := Lib.hid mk24; clear mk24
  have U24 := Lib.hid u24; clear u24
  have RG24 : Hid (∀ b, rowBlks r8 xs0 b → _ ∧ b < _) := Lib.hid (fun b hb => by have := O8.out.blks hb; exact ⟨this.1, this.2.1⟩)
  have v24 := v22.of_upd U24.out (fun b hb => by have := RG24.out b hb; have := SZ0_0.out; have := SZ1.out; have := SZ3.out; have := SZ4.out; have := SZ5.out; have := SZ6.out; have := SZ8.out; have := SZ9.out; have := SA9.out; have := SZ10.out; have := SZ11.out; have := SZ13.out; have := SZ14.out; have := SZ18.out; have := SZ19.out; have := SZ20.out; have := SZ21.out; have := SZ22.out; omega)
  have SZ24 := Lib.hid U24.out.size
  go_wp2_with fail
  refine (markIntS_c _ _ _ xs1 k0 _ (((((((((O10.out.ext u11).ext u13).ext u14).ext e18).ext u19).ext u20).ext u21).ext u22).away U24.out (fun b hb => by have := RG24.out b hb; have := RS_8.out; have := RS_10.out; have := SZ0_0.out; have := SZ1.out; have := SZ3.out; have := SZ4.out; have := SZ5.out; have := SZ6.out; have := SZ8.out; have := SZ9.out; have := SA9.out; have := SZ10.out; have := SZ11.out; have := SZ13.out; have := SZ14.out; have := SZ18.out; have := SZ19.out; have := SZ20.out; have := SZ21.out; have := SZ22.out; have := SZ24.out; omega)) L1.out (by omega)).mono ?_
  rw [HK1.out]
  rintro e w25 ⟨rfl, o25, u25⟩
  have OM25 := Lib.hid o25; clear o25
  have U25 := Lib.hid u25; clear u25
  have RG25 : Hid (∀ b, (xs1 ≠ [] ∧ b = blk x10) → _ ∧ b < _) := Lib.hid (fun b hb => by have := O10.out.range hb.1; rw [hb.2]; exact ⟨this.1, this.2.1⟩)
  have v25 := v24.of_upd U25.out (fun b hb => by have := RG25.out b hb; have := SZ0_0.out; have := SZ1.out; have := SZ3.out; have := SZ4.out; have := SZ5.out; have := SZ6.out; have := SZ8.out; have := SZ9.out; have := SA9.out; have := SZ10.out; have := SZ11.out; have := SZ13.out; have := SZ14.out; have := SZ18.out; have := SZ19.out; have := SZ20.out; have := SZ21.out; have := SZ22.out; have := SZ24.out; omega)
  have SZ25 := Lib.hid U25.out.size
  go_wp2_with fail
  refine (markIntS_c _ _ _ xs2 k1 _ (((((((((O11.out.ext u13).ext u14).ext e18).ext u19).ext u20).ext u21).ext u22).away U24.out (fun b hb => by have := RG24.out b hb; have := RS_8.out; have := RS_11.out; have := SZ0_0.out; have := SZ1.out; have := SZ3.out; have := SZ4.out; have := SZ5.out; have := SZ6.out; have := SZ8.out; have := SZ9.out; have := SA9.out; have := SZ10.out; have := SZ11.out; have := SZ13.out; have := SZ14.out; have := SZ18.out; have := SZ19.out; have := SZ20.out; have := SZ21.out; have := SZ22.out; have := SZ24.out; have := SZ25.out; omega)).away U25.out (fun b hb => by have := RG25.out b hb; have := RS_10.out; have := RS_11.out; have := SZ0_0.out; have := SZ1.out; have := SZ3.out; have := SZ4.out; have := SZ5.out; have := SZ6.out; have := SZ8.out; have := SZ9.out; have := SA9.out; have := SZ10.out; have := SZ11.out; have := SZ13.out; have := SZ14.out; have := SZ18.out; have := SZ19.out; have := SZ20.out; have := SZ21.out; have := SZ22.out; have := SZ24.out; have := SZ25.out; omega)) L2.out (by omega)).mono ?_
  rw [HK2.out]
  rintro e w26 ⟨rfl, o26, u26⟩
  have OM26 := Lib.hid o26; clear o26
  have U26 := Lib.hid u26; clear u26
  have RG26 : Hid (∀ b, (xs2 ≠ [] ∧ b = blk x11) → _ ∧ b < _) := Lib.hid (fun b hb => by have := O11.out.range hb.1; rw [hb.2]; exact ⟨this.1, this.2.1⟩)
  have v26 := v25.of_upd U26.out (fun b hb => by have := RG26.out b hb; have := SZ0_0.out; have := SZ1.out; have := SZ3.out; have := SZ4.out; have := SZ5.out; have := SZ6.out; have := SZ8.out; have := SZ9.out; have := SA9.out; have := SZ10.out; have := SZ11.out; have := SZ13.out; have := SZ14.out; have := SZ18.out; have := SZ19.out; have := SZ20.out; have := SZ21.out; have := SZ22.out; have := SZ24.out; have := SZ25.out; omega)
  have SZ26 := Lib.hid U26.out.size
  go_wp2_with fail
  refine (eqIntS_b true _ _ V0 V0 _ (by simp) (((((((((O13.out.ext u14).ext e18).ext u19).ext u20).ext u21).ext u22).away U24.out (fun b hb => by have := RG24.out b hb; have := RS_8.out; have := RS_13.out; have := SZ0_0.out; have := SZ1.out; have := SZ3.out; have := SZ4.out; have := SZ5.out; have := SZ6.out; have := SZ8.out; have := SZ9.out; have := SA9.out; have := SZ10.out; have := SZ11.out; have := SZ13.out; have := SZ14.out; have := SZ18.out; have := SZ19.out; have := SZ20.out; have := SZ21.out; have := SZ22.out; have := SZ24.out; have := SZ25.out; have := SZ26.out; omega)).away U25.out (fun b hb => by have := RG25.out b hb; have := RS_10.out; have := RS_13.out; have := SZ0_0.out; have := SZ1.out; have := SZ3.out; have := SZ4.out; have := SZ5.out; have := SZ6.out; have := SZ8.out; have := SZ9.out; have := SA9.out; have := SZ10.out; have := SZ11.out; have := SZ13.out; have := SZ14.out; have := SZ18.out; have := SZ19.out; have := SZ20.out; have := SZ21.out; have := SZ22.out; have := SZ24.out; have := SZ25.out; have := SZ26.out; omega)).away U26.out (fun b hb => by have := RG26.out b hb; have := RS_11.out; have := RS_13.out; have := SZ0_0.out; have := SZ1.out; have := SZ3.out; have := SZ4.out; have := SZ5.out; have := SZ6.out; have := SZ8.out; have := SZ9.out; have := SA9.out; have := SZ10.out; have := SZ11.out; have := SZ13.out; have := SZ14.out; have := SZ18.out; have := SZ19.out; have := SZ20.out; have := SZ21.out; have := SZ22.out; have := SZ24.out; have := SZ25.out; have := SZ26.out; omega)).ints ((((((((((((((O6.out.ext u8).ext u9).ext u10).ext u11).ext u13).ext u14).ext e18).ext u19).ext u20).ext u21).ext u22).away U24.out (fun b hb => by have := RG24.out b hb; have := RS_8.out; have := RS_6.out; have := SZ0_0.out; have := SZ1.out; have := SZ3.out; have := SZ4.out; have := SZ5.out; have := SZ6.out; have := SZ8.out; have := SZ9.out; have := SA9.out; have := SZ10.out; have := SZ11.out; have := SZ13.out; have := SZ14.out; have := SZ18.out; have := SZ19.out; have := SZ20.out; have := SZ21.out; have := SZ22.out; have := SZ24.out; have := SZ25.out; have := SZ26.out; omega)).away U25.out (fun b hb => by have := RG25.out b hb; have := RS_10.out; have := RS_6.out; have := SZ0_0.out; have := SZ1.out; have := SZ3.out; have := SZ4.out; have := SZ5.out; have := SZ6.out; have := SZ8.out; have := SZ9.out; have := SA9.out; have := SZ10.out; have := SZ11.out; have := SZ13.out; have := SZ14.out; have := SZ18.out; have := SZ19.out; have := SZ20.out; have := SZ21.out; have := SZ22.out; have := SZ24.out; have := SZ25.out; have := SZ26.out; omega)).away U26.out (fun b hb => by have := RG26.out b hb; have := RS_11.out; have := RS_6.out; have := SZ0_0.out; have := SZ1.out; have := SZ3.out; have := SZ4.out; have := SZ5.out; have := SZ6.out; have := SZ8.out; have := SZ9.out; have := SA9.out; have := SZ10.out; have := SZ11.out; have := SZ13.out; have := SZ14.out; have := SZ18.out; have := SZ19.out; have := SZ20.out; have := SZ21.out; have := SZ22.out; have := SZ24.out; have := SZ25.out; have := SZ26.out; omega)).ints).mono ?_
  rintro e w27 ⟨rfl, d27⟩
  have u27 := Drew.ext d27
  have v27 := v26.trans u27
  have SZ27 := Lib.hid u27.size
  go_wp2_with fail
  refine (markIntS_c _ _ _ V0 1 _ ((((((((((O13.out.ext u14).ext e18).ext u19).ext u20).ext u21).ext u22).away U24.out (fun b hb => by have := RG24.out b hb; have := RS_8.out; have := RS_13.out; have := SZ0_0.out; have := SZ1.out; have := SZ3.out; have := SZ4.out; have := SZ5.out; have := SZ6.out; have := SZ8.out; have := SZ9.out; have := SA9.out; have := SZ10.out; have := SZ11.out; have := SZ13.out; have := SZ14.out; have := SZ18.out; have := SZ19.out; have := SZ20.out; have := SZ21.out; have := SZ22.out; have := SZ24.out; have := SZ25.out; have := SZ26.out; have := SZ27.out; omega)).away U25.out (fun b hb => by have := RG25.out b hb; have := RS_10.out; have := RS_13.out; have := SZ0_0.out; have := SZ1.out; have := SZ3.out; have := SZ4.out; have := SZ5.out; have := SZ6.out; have := SZ8.out; have := SZ9.out; have := SA9.out; have := SZ10.out; have := SZ11.out; have := SZ13.out; have := SZ14.out; have := SZ18.out; have := SZ19.out; have := SZ20.out; have := SZ21.out; have := SZ22.out; have := SZ24.out; have := SZ25.out; have := SZ26.out; have := SZ27.out; omega)).away U26.out (fun b hb => by have := RG26.out b hb; have := RS_11.out; have := RS_13.out; have := SZ0_0.out; have := SZ1.out; have := SZ3.out; have := SZ4.out; have := SZ5.out; have := SZ6.out; have := SZ8.out; have := SZ9.out; have := SA9.out; have := SZ10.out; have := SZ11.out; have := SZ13.out; have := SZ14.out; have := SZ18.out; have := SZ19.out; have := SZ20.out; have := SZ21.out; have := SZ22.out; have := SZ24.out; have := SZ25.out; have := SZ26.out; have := SZ27.out; omega)).ext u27) RS0.out (by omega)).mono ?_
  rw [HM0.out]
  rintro e w28 ⟨rfl, o28, u28⟩
  have OM28 := Lib.hid o28; clear o28
  have U28 := Lib.hid u28; clear u28
  have RG28 : Hid (∀ b, (V0 ≠ [] ∧ b = blk x13) → _ ∧ b < _) := Lib.hid (fun b hb => by have := O13.out.range hb.1; rw [hb.2]; exact ⟨this.1, this.2.1⟩)
  have v28 := v27.of_upd U28.out (fun b hb => by have := RG28.out b hb; have := SZ0_0.out; have := SZ1.out; have := SZ3.out; have := SZ4.out; have := SZ5.out; have := SZ6.out; have := SZ8.out; have := SZ9.out; have := SA9.out; have := SZ10.out; have := SZ11.out; have := SZ13.out; have := SZ14.out; have := SZ18.out; have := SZ19.out; have := SZ20.out; have := SZ21.out; have := SZ22.out; have := SZ24.out; have := SZ25.out; have := SZ26.out; have := SZ27.out; omega)
  have SZ28 := Lib.hid U28.out.size
  go_wp2_with fail
  refine (heldIntS_c _ V0.length 1 _ OM28.out.ints RS0.out (by omega)).mono ?_
  rw [HM0.out]
  rintro e w28 ⟨rfl, rfl⟩
  have bx30 := (((((((((((((((((((((ba0.ext u1).ext u3).ext u4).ext u5).ext u6).ext u8).ext u9).ext u10).ext u11).ext u13).ext u14).ext e18).ext u19).ext u20).ext u21).ext u22).upd U24.out (fun hb => by have := RG24.out _ hb; have := RS_8.out; have := SZ0_0.out; have := SZ1.out; have := SZ3.out; have := SZ4.out; have := SZ5.out; have := SZ6.out; have := SZ8.out; have := SZ9.out; have := SA9.out; have := SZ10.out; have := SZ11.out; have := SZ13.out; have := SZ14.out; have := SZ18.out; have := SZ19.out; have := SZ20.out; have := SZ21.out; have := SZ22.out; have := SZ24.out; have := SZ25.out; have := SZ26.out; have := SZ27.out; have := SZ28.out; omega)).upd U25.out (fun hb => by have := RG25.out _ hb; have := RS_10.out; have := SZ0_0.out; have := SZ1.out; have := SZ3.out; have := SZ4.out; have := SZ5.out; have := SZ6.out; have := SZ8.out; have := SZ9.out; have := SA9.out; have := SZ10.out; have := SZ11.out; have := SZ13.out; have := SZ14.out; have := SZ18.out; have := SZ19.out; have := SZ20.out; have := SZ21.out; have := SZ22.out; have := SZ24.out; have := SZ25.out; have := SZ26.out; have := SZ27.out; have := SZ28.out; omega)).upd U26.out (fun hb => by have := RG26.out _ hb; have := RS_11.out; have := SZ0_0.out; have := SZ1.out; have := SZ3.out; have := SZ4.out; have := SZ5.out; have := SZ6.out; have := SZ8.out; have := SZ9.out; have := SA9.out; have := SZ10.out; have := SZ11.out; have := SZ13.out; have := SZ14.out; have := SZ18.out; have := SZ19.out; have := SZ20.out; have := SZ21.out; have := SZ22.out; have := SZ24.out; have := SZ25.out; have := SZ26.out; have := SZ27.out; have := SZ28.out; omega)).ext u27).upd U28.out (fun hb => by have := RG28.out _ hb; have := RS_13.out; have := SZ0_0.out; have := SZ1.out; have := SZ3.out; have := SZ4.out; have := SZ5.out; have := SZ6.out; have := SZ8.out; have := SZ9.out; have := SA9.out; have := SZ10.out; have := SZ11.out; have := SZ13.out; have := SZ14.out; have := SZ18.out; have := SZ19.out; have := SZ20.out; have := SZ21.out; have := SZ22.out; have := SZ24.out; have := SZ25.out; have := SZ26.out; have := SZ27.out; have := SZ28.out; omega))
  have cx30_0 := bx30.cell 0 (by simp)
  go_wp2_with fail
  refine (toNoiseTable_c _ xs0 _ (H0.out.ext v28) S0.out).mono ?_
  rintro e w31 ⟨x31, r31, rfl, o31, u31⟩
  have v31 := v28.trans u31
  have SZ31 := Lib.hid u31.size
  have O31 := Lib.hid o31
  clear o31
  have RS_31 := Lib.hid u31.size
  go_wp2_with fail
  refine (toIntS_c _ xs1 _ (H1.out.ext v31) L1.out).mono ?_
  rintro e w32 ⟨x32, rfl, o32, u32⟩
  have v32 := v31.trans u32
  have SZ32 := Lib.hid u32.size
  have O32 := Lib.hid o32
  clear o32
  have RS_32 := Lib.hid u32.size
  go_wp2_with fail
  refine (toIntS_c _ xs2 _ (H2.out.ext v32) L2.out).mono ?_
  rintro e w33 ⟨x33, rfl, o33, u33⟩
  have v33 := v32.trans u33
  have SZ33 := Lib.hid u33.size
  have O33 := Lib.hid o33
  clear o33
  have RS_33 := Lib.hid u33.size
  go_wp2_with fail
  refine (implPerturb_c _ xs0 _ xs1 _ xs2 _ ((O31.out.ext u32).ext u33).grid (O32.out.ext u33).ints O33.out.ints ).mono ?_
  rw [HV0.out]
  rw [HV1.out]
  rintro e w34 ⟨x34, rfl, o34, u34⟩
  have v34 := v33.trans u34
  have SZ34 := Lib.hid u34.size
  have O34 := Lib.hid o34
  clear o34
  have RS_34 := Lib.hid u34.size
  go_wp2_with fail
  refine (eqIntS_b true _ _ V0 V0 _ (by simp) O34.out.ints ((((((((((((((((((((O6.out.ext u8).ext u9).ext u10).ext u11).ext u13).ext u14).ext e18).ext u19).ext u20).ext u21).ext u22).away U24.out (fun b hb => by have := RG24.out b hb; have := RS_8.out; have := RS_6.out; have := SZ0_0.out; have := SZ1.out; have := SZ3.out; have := SZ4.out; have := SZ5.out; have := SZ6.out; have := SZ8.out; have := SZ9.out; have := SA9.out; have := SZ10.out; have := SZ11.out; have := SZ13.out; have := SZ14.out; have := SZ18.out; have := SZ19.out; have := SZ20.out; have := SZ21.out; have := SZ22.out; have := SZ24.out; have := SZ25.out; have := SZ26.out; have := SZ27.out; have := SZ28.out; have := SZ31.out; have := SZ32.out; have := SZ33.out; have := SZ34.out; omega)).away U25.out (fun b hb => by have := RG25.out b hb; have := RS_10.out; have := RS_6.out; have := SZ0_0.out; have := SZ1.out; have := SZ3.out; have := SZ4.out; have := SZ5.out; have := SZ6.out; have := SZ8.out; have := SZ9.out; have := SA9.out; have := SZ10.out; have := SZ11.out; have := SZ13.out; have := SZ14.out; have := SZ18.out; have := SZ19.out; have := SZ20.out; have := SZ21.out; have := SZ22.out; have := SZ24.out; have := SZ25.out; have := SZ26.out; have := SZ27.out; have := SZ28.out; have := SZ31.out; have := SZ32.out; have := SZ33.out; have := SZ34.out; omega)).away U26.out (fun b hb => by have := RG26.out b hb; have := RS_11.out; have := RS_6.out; have := SZ0_0.out; have := SZ1.out; have := SZ3.out; have := SZ4.out; have := SZ5.out; have := SZ6.out; have := SZ8.out; have := SZ9.out; have := SA9.out; have := SZ10.out; have := SZ11.out; have := SZ13.out; have := SZ14.out; have := SZ18.out; have := SZ19.out; have := SZ20.out; have := SZ21.out; have := SZ22.out; have := SZ24.out; have := SZ25.out; have := SZ26.out; have := SZ27.out; have := SZ28.out; have := SZ31.out; have := SZ32.out; have := SZ33.out; have := SZ34.out; omega)).ext u27).away U28.out (fun b hb => by have := RG28.out b hb; have := RS_13.out; have := RS_6.out; have := SZ0_0.out; have := SZ1.out; have := SZ3.out; have := SZ4.out; have := SZ5.out; have := SZ6.out; have := SZ8.out; have := SZ9.out; have := SA9.out; have := SZ10.out; have := SZ11.out; have := SZ13.out; have := SZ14.out; have := SZ18.out; have := SZ19.out; have := SZ20.out; have := SZ21.out; have := SZ22.out; have := SZ24.out; have := SZ25.out; have := SZ26.out; have := SZ27.out; have := SZ28.out; have := SZ31.out; have := SZ32.out; have := SZ33.out; have := SZ34.out; omega)).ext u31).ext u32).ext u33).ext u34).ints).mono ?_
  rintro e w35 ⟨rfl, d35⟩
  have u35 := Drew.ext d35
  have v35 := v34.trans u35
  have SZ35 := Lib.hid u35.size
  go_wp2_with fail
  refine (heldIntS_c _ V0.length 1 _ (((((OM28.out.ext u31).ext u32).ext u33).ext u34).ext u35).ints RS0.out (by omega)).mono ?_
  rw [HM0.out]
  rintro e w35 ⟨rfl, rfl⟩
  go_wp2
  go_ret
  exact ⟨rfl, v35⟩
end Go.Proofs.Ytabfnpndfknjaaa
