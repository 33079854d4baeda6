/- The law on NeedsPartners. -/
import Derived.Test.YtmffhipfodlomaaNeeds
import Derived.Test.YtmffhipfodlomaaRgOf
import Derived.Deep.RegionHeld3
namespace Go.Proofs.Ytmffhipfodlomaa
open Go.RowKit

set_option maxHeartbeats 3200000 in
theorem lawNeedsPartners_c (v0 : Value) (xs0 : List (List Int)) (v1 : Value) (xs1 : List (List Int)) (v2 : Value) (xs2 : List (List Int)) (w : World) (h0 : Grid w v0 xs0) (h1 : Grid w v1 xs1) (h2 : Grid w v2 xs2) (_ : WfG xs0) (_ : WfG xs1) (_ : WfG xs2) :
    Calls Try.prog 9 #[v0, v1, v2] w fun e w' => e = .returned (.bool true) ∧ Ext w w' := by
  have H0 := Lib.hid h0; clear h0
  have H1 := Lib.hid h1; clear h1
  have H2 := Lib.hid h2; clear h2
  have v0 := (Ext.refl w)
  obtain ⟨V0, hV0⟩ : ∃ V, needsV xs0 xs1 xs2 = V := ⟨_, rfl⟩
  have HV0 := Lib.hid hV0; clear hV0
  have qv0 : (V0 != V0) = false := by simp
  obtain ⟨V1, hV1⟩ : ∃ V, needsB xs0 xs1 xs2 = V := ⟨_, rfl⟩
  have HV1 := Lib.hid hV1; clear hV1
  have qv1 : (V1 != V1) = false := by simp
  go_enter Try.func9, Try.ntmps9
  obtain ⟨t0, ht0⟩ : ∃ t, szG 1048576 xs0 = t := ⟨_, rfl⟩
  have T0 := Lib.hid ht0; clear ht0
  go_wp2_with fail
  refine (szIntSS_c _ xs0 1048576 _ (H0.out.ext v0) (by omega)).mono ?_
  rw [T0.out]
  rintro e w' ⟨rfl, rfl⟩
  by_cases hz0 : t0 < 0
  · go_wp2
    go_ret
    exact ⟨rfl, v0⟩
  have tr0 : 0 ≤ t0 ∧ t0 ≤ 1048576 := by have h1 := T0.out; have h2 := szG_range (left := 1048576) (xss := xs0) (by omega); omega
  have S0 := Lib.hid (Small.of_szG (left := 1048576) (xss := xs0) (by omega) (by have h1 := T0.out; omega))
  obtain ⟨t1, ht1⟩ : ∃ t, szG t0 xs1 = t := ⟨_, rfl⟩
  have T1 := Lib.hid ht1; clear ht1
  go_wp2_with fail
  refine (szIntSS_c _ xs1 t0 _ (H1.out.ext v0) (by omega)).mono ?_
  rw [T1.out]
  rintro e w' ⟨rfl, rfl⟩
  by_cases hz1 : t1 < 0
  · go_wp2
    go_ret
    exact ⟨rfl, v0⟩
  have tr1 : 0 ≤ t1 ∧ t1 ≤ 1048576 := by have h1 := T1.out; have h2 := szG_range (left := t0) (xss := xs1) (by omega); omega
  have S1 := Lib.hid (Small.of_szG (left := t0) (xss := xs1) (by omega) (by have h1 := T1.out; omega))
  obtain ⟨t2, ht2⟩ : ∃ t, szG t1 xs2 = t := ⟨_, rfl⟩
  have T2 := Lib.hid ht2; clear ht2
  go_wp2_with fail
  refine (szIntSS_c _ xs2 t1 _ (H2.out.ext v0) (by omega)).mono ?_
  rw [T2.out]
  rintro e w' ⟨rfl, rfl⟩
  by_cases hz2 : t2 < 0
  · go_wp2
    go_ret
    exact ⟨rfl, v0⟩
  have tr2 : 0 ≤ t2 ∧ t2 ≤ 1048576 := by have h1 := T2.out; have h2 := szG_range (left := t1) (xss := xs2) (by omega); omega
  have S2 := Lib.hid (Small.of_szG (left := t1) (xss := xs2) (by omega) (by have h1 := T2.out; omega))
  go_wp2_with fail
  refine (toIntSS_c _ xs0 _ (H0.out.ext v0) S0.out.len S0.out.row).mono ?_
  rintro e w4 ⟨x4, r4, rfl, o4, u4⟩
  have v4 := v0.trans u4
  have SZ4 := Lib.hid u4.size
  have O4 := Lib.hid o4
  clear o4
  have RS_4 := Lib.hid u4.size
  go_wp2_with fail
  refine (toIntSS_c _ xs1 _ (H1.out.ext v4) S1.out.len S1.out.row).mono ?_
  rintro e w5 ⟨x5, r5, rfl, o5, u5⟩
  have v5 := v4.trans u5
  have SZ5 := Lib.hid u5.size
  have O5 := Lib.hid o5
  clear o5
  have RS_5 := Lib.hid u5.size
  go_wp2_with fail
  refine (toIntSS_c _ xs2 _ (H2.out.ext v5) S2.out.len S2.out.row).mono ?_
  rintro e w6 ⟨x6, r6, rfl, o6, u6⟩
  have v6 := v5.trans u6
  have SZ6 := Lib.hid u6.size
  have O6 := Lib.hid o6
  clear o6
  have RS_6 := Lib.hid u6.size
  go_wp2_with fail
  refine (specNeeds_c _ xs0 _ xs1 _ xs2 _ ((O4.out.ext u5).ext u6).grid (O5.out.ext u6).grid O6.out.grid ).mono ?_
  rw [HV0.out]
  rw [HV1.out]
  rintro e w7 ⟨rfl, u7⟩
  have v7 := v6.trans u7
  have SZ7 := Lib.hid u7.size
  go_wp2_with fail
  refine (toIntSS_c _ xs0 _ (H0.out.ext v7) S0.out.len S0.out.row).mono ?_
  rintro e w8 ⟨x8, r8, rfl, o8, u8⟩
  have v8 := v7.trans u8
  have SZ8 := Lib.hid u8.size
  have O8 := Lib.hid o8
  clear o8
  have RS_8 := Lib.hid u8.size
  go_wp2_with fail
  refine (toIntSS_c _ xs1 _ (H1.out.ext v8) S1.out.len S1.out.row).mono ?_
  rintro e w9 ⟨x9, r9, rfl, o9, u9⟩
  have v9 := v8.trans u9
  have SZ9 := Lib.hid u9.size
  have O9 := Lib.hid o9
  clear o9
  have RS_9 := Lib.hid u9.size
  go_wp2_with fail
  refine (toIntSS_c _ xs2 _ (H2.out.ext v9) S2.out.len S2.out.row).mono ?_
  rintro e w10 ⟨x10, r10, rfl, o10, u10⟩
  have v10 := v9.trans u10
  have SZ10 := Lib.hid u10.size
  have O10 := Lib.hid o10
  clear o10
  have RS_10 := Lib.hid u10.size
  go_wp2_with fail
  refine (implNeeds_c _ xs0 _ xs1 _ xs2 _ ((O8.out.ext u9).ext u10).grid (O9.out.ext u10).grid O10.out.grid ).mono ?_
  rw [HV0.out]
  rw [HV1.out]
  rintro e w11 ⟨rfl, u11⟩
  have v11 := v10.trans u11
  have SZ11 := Lib.hid u11.size
  go_wp2_with fail
  refine (toIntSS_c _ xs0 _ (H0.out.ext v11) S0.out.len S0.out.row).mono ?_
  rintro e w12 ⟨x12, r12, rfl, o12, u12⟩
  have v12 := v11.trans u12
  have SZ12 := Lib.hid u12.size
  have O12 := Lib.hid o12
  clear o12
  have RS_12 := Lib.hid u12.size
  go_wp2_with fail
  refine (eqIntSS_b true _ _ xs0 xs0 _ (by simp) ((((O8.out.ext u9).ext u10).ext u11).ext u12).grid O12.out.grid).mono ?_
  rintro e w13 ⟨rfl, d13⟩
  have u13 := Drew.ext d13
  have v13 := v12.trans u13
  have SZ13 := Lib.hid u13.size
  go_wp2_with fail
  refine (toIntSS_c _ xs1 _ (H1.out.ext v13) S1.out.len S1.out.row).mono ?_
  rintro e w14 ⟨x14, r14, rfl, o14, u14⟩
  have v14 := v13.trans u14
  have SZ14 := Lib.hid u14.size
  have O14 := Lib.hid o14
  clear o14
  have RS_14 := Lib.hid u14.size
  go_wp2_with fail
  refine (eqIntSS_b true _ _ xs1 xs1 _ (by simp) (((((O9.out.ext u10).ext u11).ext u12).ext u13).ext u14).grid O14.out.grid).mono ?_
  rintro e w15 ⟨rfl, d15⟩
  have u15 := Drew.ext d15
  have v15 := v14.trans u15
  have SZ15 := Lib.hid u15.size
  go_wp2_with fail
  refine (toIntSS_c _ xs2 _ (H2.out.ext v15) S2.out.len S2.out.row).mono ?_
  rintro e w16 ⟨x16, r16, rfl, o16, u16⟩
  have v16 := v15.trans u16
  have SZ16 := Lib.hid u16.size
  have O16 := Lib.hid o16
  clear o16
  have RS_16 := Lib.hid u16.size
  go_wp2_with fail
  refine (eqIntSS_b true _ _ xs2 xs2 _ (by simp) ((((((O10.out.ext u11).ext u12).ext u13).ext u14).ext u15).ext u16).grid O16.out.grid).mono ?_
  rintro e w17 ⟨rfl, d17⟩
  have u17 := Drew.ext d17
  have v17 := v16.trans u17
  have SZ17 := Lib.hid u17.size
  go_wp2
  go_ret
  exact ⟨rfl, v17⟩
end Go.Proofs.Ytmffhipfodlomaa
