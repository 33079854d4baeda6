/- The law on IsRounding. -/
import Derived.Test.YtmffhipfodlomaaIsrW
import Derived.Test.YtmffhipfodlomaaRgOf
import Derived.Deep.RegionHeld3
namespace Go.Proofs.Ytmffhipfodlomaa
open Go.RowKit

set_option maxHeartbeats 3200000 in
theorem lawIsRounding_c (v0 : Value) (xs0 : List (List Int)) (a1 : Int) (v2 : Value) (xs2 : Rd) (w : World) (h0 : Grid w v0 xs0) (h2 : RdR w v2 xs2) (_ : WfG xs0) (i1 : -9223372036854775808 ≤ a1 ∧ a1 ≤ 9223372036854775807) (_ : RdWf xs2) :
    Calls Try.prog 14 #[v0, .int .i64 a1, v2] w fun e w' => e = .returned (.bool true) ∧ Ext w w' := by
  have H0 := Lib.hid h0; clear h0
  have I1 := Lib.hid i1; clear i1
  have H2 := Lib.hid h2
  obtain ⟨ao2_0, cap2_0, ao2_1, cap2_1, ao2_2, cap2_2, rfl, _, _, _⟩ := h2.form; clear h2
  have ba2 := Box.new w 33 #[.slice ao2_0 xs2.cells.length cap2_0, .slice ao2_1 xs2.rows.length cap2_1, .slice ao2_2 xs2.cols.length cap2_2, .int .i64 xs2.total] rfl
  have SZ0_0 : Hid ((w.alloc (.cells #[.slice ao2_0 xs2.cells.length cap2_0, .slice ao2_1 xs2.rows.length cap2_1, .slice ao2_2 xs2.cols.length cap2_2, .int .i64 xs2.total] 33)).heap.size = w.heap.size + 1) := Lib.hid (by simp)
  have v0 := ((Ext.refl w).alloc (.cells #[.slice ao2_0 xs2.cells.length cap2_0, .slice ao2_1 xs2.rows.length cap2_1, .slice ao2_2 xs2.cols.length cap2_2, .int .i64 xs2.total] 33))
  obtain ⟨V0, hV0⟩ : ∃ V, isrV xs0 a1 xs2 = V := ⟨_, rfl⟩
  have HV0 := Lib.hid hV0; clear hV0
  have qv0 : (V0 != V0) = false := by simp
  obtain ⟨V1, hV1⟩ : ∃ V, isrB xs0 a1 = V := ⟨_, rfl⟩
  have HV1 := Lib.hid hV1; clear hV1
  have qv1 : (V1 != V1) = false := by simp
  go_enter Try.func14, Try.ntmps14
  obtain ⟨t0, ht0⟩ : ∃ t, szG 1048576 xs0 = t := ⟨_, rfl⟩
  have T0 := Lib.hid ht0; clear ht0
  go_wp2_with fail
  refine (szIntSS_c _ xs0 1048576 _ (H0.out.ext v0) (by omega)).mono ?_
  rw [T0.out]
  rintro e w' ⟨rfl, rfl⟩
  by_cases hz0 : t0 < 0
  · go_wp2
    go_ret
    exact ⟨rfl, v0⟩
  have tr0 : 0 ≤ t0 ∧ t0 ≤ 1048576 := by have h1 := T0.out; have h2 := szG_range (left := 1048576) (xss := xs0) (by omega); omega
  have S0 := Lib.hid (Small.of_szG (left := 1048576) (xss := xs0) (by omega) (by have h1 := T0.out; omega))
  have bx2 := ba2
  have cx2_0 := bx2.cell 0 (by simp)
  have cx2_1 := bx2.cell 1 (by simp)
  have cx2_2 := bx2.cell 2 (by simp)
  have cx2_3 := bx2.cell 3 (by simp)
  go_wp2_with fail
  refine (szRounding_c _ xs2 t0 _ (H2.out.ext v0) (by omega)).mono ?_
  rintro e w3 ⟨t2, rfl, hr2, u3⟩
  have v3 := v0.trans u3
  have SZ3 := Lib.hid u3.size
  rcases hr2 with hr2 | ⟨hr2, hq2, hs2⟩
  · go_wp2
    go_ret
    exact ⟨rfl, v3⟩
  have hz2 : ¬ (t2 < 0) := by omega
  have tr2 : 0 ≤ t2 ∧ t2 ≤ 1048576 := by omega
  have S2 := Lib.hid hs2; clear hs2 hr2 hq2
  have bx4 := (ba2.ext u3)
  have cx4_0 := bx4.cell 0 (by simp)
  have cx4_1 := bx4.cell 1 (by simp)
  have cx4_2 := bx4.cell 2 (by simp)
  have cx4_3 := bx4.cell 3 (by simp)
  go_wp2_with fail
  go_region_held3 (fun w' => w'.cell? ⟨w.heap.size, 0, none⟩ = some (.slice ao2_0 xs2.cells.length cap2_0) ∧ w'.cell? ⟨w.heap.size, 1, none⟩ = some (.slice ao2_1 xs2.rows.length cap2_1) ∧ w'.cell? ⟨w.heap.size, 2, none⟩ = some (.slice ao2_2 xs2.cols.length cap2_2) ∧ w'.cell? ⟨w.heap.size, 3, none⟩ = some (.int .i64 xs2.total))
    (first | exact ⟨Ext.cell u7 (Ext.cell u6 (Ext.cell u5 (cx4_0))), Ext.cell u7 (Ext.cell u6 (Ext.cell u5 (cx4_1))), Ext.cell u7 (Ext.cell u6 (Ext.cell u5 (cx4_2))), Ext.cell u7 (Ext.cell u6 (Ext.cell u5 (cx4_3)))⟩ | exact ⟨Ext.cell u6 (Ext.cell u5 (cx4_0)), Ext.cell u6 (Ext.cell u5 (cx4_1)), Ext.cell u6 (Ext.cell u5 (cx4_2)), Ext.cell u6 (Ext.cell u5 (cx4_3))⟩ | exact ⟨Ext.cell u5 (cx4_0), Ext.cell u5 (cx4_1), Ext.cell u5 (cx4_2), Ext.cell u5 (cx4_3)⟩ | go_keep)
    ((first | (go_at_call 52; refine (specIsr_c _ xs0 a1 _ xs2 _ (o5.ext u6).grid o6.read).mono ?_; rw [HV0.out]; rw [HV1.out]; rintro e w7 ⟨rfl, u7⟩) | (go_at_call 24; refine (toRounding_c _ xs2 _ (H2.out.ext ((v3.drew).trans u5)) S2.out).mono ?_; rintro e w6 ⟨x6, rfl, o6, u6⟩) | (go_at_call 23; refine (toIntSS_c _ xs0 _ (H0.out.ext (v3.drew)) S0.out.len S0.out.row).mono ?_; rintro e w5 ⟨x5, r5, rfl, o5, u5⟩)))
  have e7 := ((((Ext.refl w3).drew.trans u5).trans u6).trans u7)
  have v7 := v3.trans e7
  have SZ7 := Lib.hid e7.size
  go_wp2_with fail
  refine (toIntSS_c _ xs0 _ (H0.out.ext v7) S0.out.len S0.out.row).mono ?_
  rintro e w8 ⟨x8, r8, rfl, o8, u8⟩
  have v8 := v7.trans u8
  have SZ8 := Lib.hid u8.size
  have O8 := Lib.hid o8
  clear o8
  have RS_8 := Lib.hid u8.size
  have bx9 := (((ba2.ext u3).ext e7).ext u8)
  have cx9_0 := bx9.cell 0 (by simp)
  have cx9_1 := bx9.cell 1 (by simp)
  have cx9_2 := bx9.cell 2 (by simp)
  have cx9_3 := bx9.cell 3 (by simp)
  go_wp2_with fail
  refine (toRounding_c _ xs2 _ (H2.out.ext v8) S2.out).mono ?_
  rintro e w10 ⟨x10, rfl, o10, u10⟩
  have v10 := v8.trans u10
  have SZ10 := Lib.hid u10.size
  have O10 := Lib.hid o10
  clear o10
  have RS_10 := Lib.hid u10.size
  obtain ⟨a10_0, cp10_0, a10_1, cp10_1, a10_2, cp10_2, hxx10, _, _, _⟩ := O10.out.read.form
  subst hxx10
  have bo10 := Box.new w10 39 #[.slice a10_0 xs2.cells.length cp10_0, .slice a10_1 xs2.rows.length cp10_1, .slice a10_2 xs2.cols.length cp10_2, .int .i64 xs2.total] rfl
  have u11 := (Ext.refl w10).alloc (.cells #[.slice a10_0 xs2.cells.length cp10_0, .slice a10_1 xs2.rows.length cp10_1, .slice a10_2 xs2.cols.length cp10_2, .int .i64 xs2.total] 39)
  have v11 := v10.trans u11
  have SZ11 := Lib.hid u11.size
  have SA11 : Hid ((w10.alloc (.cells #[.slice a10_0 xs2.cells.length cp10_0, .slice a10_1 xs2.rows.length cp10_1, .slice a10_2 xs2.cols.length cp10_2, .int .i64 xs2.total] 39)).heap.size = w10.heap.size + 1) := Lib.hid (by simp)
  have bx12 := bo10
  have cx12_0 := bx12.cell 0 (by simp)
  have cx12_1 := bx12.cell 1 (by simp)
  have cx12_2 := bx12.cell 2 (by simp)
  have cx12_3 := bx12.cell 3 (by simp)
  go_wp2_with fail
  refine (implIsr_c _ xs0 a1 _ xs2 _ ((O8.out.ext u10).ext u11).grid (O10.out.ext u11).read ).mono ?_
  rw [HV0.out]
  rw [HV1.out]
  rintro e w13 ⟨rfl, u13⟩
  have v13 := v11.trans u13
  have SZ13 := Lib.hid u13.size
  go_wp2_with fail
  refine (toIntSS_c _ xs0 _ (H0.out.ext v13) S0.out.len S0.out.row).mono ?_
  rintro e w14 ⟨x14, r14, rfl, o14, u14⟩
  have v14 := v13.trans u14
  have SZ14 := Lib.hid u14.size
  have O14 := Lib.hid o14
  clear o14
  have RS_14 := Lib.hid u14.size
  go_wp2_with fail
  refine (eqIntSS_b true _ _ xs0 xs0 _ (by simp) ((((O8.out.ext u10).ext u11).ext u13).ext u14).grid O14.out.grid).mono ?_
  rintro e w15 ⟨rfl, d15⟩
  have u15 := Drew.ext d15
  have v15 := v14.trans u15
  have SZ15 := Lib.hid u15.size
  have bx16 := ((((((((ba2.ext u3).ext e7).ext u8).ext u10).ext u11).ext u13).ext u14).ext u15)
  have cx16_0 := bx16.cell 0 (by simp)
  have cx16_1 := bx16.cell 1 (by simp)
  have cx16_2 := bx16.cell 2 (by simp)
  have cx16_3 := bx16.cell 3 (by simp)
  have bx17 := (((bo10.ext u13).ext u14).ext u15)
  have cx17_0 := bx17.cell 0 (by simp)
  have cx17_1 := bx17.cell 1 (by simp)
  have cx17_2 := bx17.cell 2 (by simp)
  have cx17_3 := bx17.cell 3 (by simp)
  have HA18 := Lib.hid ((H2.out.ext v15))
  have HX18 := Lib.hid (((((O10.out.ext u11).ext u13).ext u14).ext u15).read)
  go_wp2_with fail
  go_region_held3 (fun w' => w'.cell? ⟨w.heap.size, 0, none⟩ = some (.slice ao2_0 xs2.cells.length cap2_0) ∧ w'.cell? ⟨w.heap.size, 1, none⟩ = some (.slice ao2_1 xs2.rows.length cap2_1) ∧ w'.cell? ⟨w.heap.size, 2, none⟩ = some (.slice ao2_2 xs2.cols.length cap2_2) ∧ w'.cell? ⟨w.heap.size, 3, none⟩ = some (.int .i64 xs2.total) ∧ w'.cell? ⟨w10.heap.size, 0, none⟩ = some (.slice a10_0 xs2.cells.length cp10_0) ∧ w'.cell? ⟨w10.heap.size, 1, none⟩ = some (.slice a10_1 xs2.rows.length cp10_1) ∧ w'.cell? ⟨w10.heap.size, 2, none⟩ = some (.slice a10_2 xs2.cols.length cp10_2) ∧ w'.cell? ⟨w10.heap.size, 3, none⟩ = some (.int .i64 xs2.total))
    (first | exact ⟨Ext.cell u19 (Ext.cell u18 cx16_0), Ext.cell u19 (Ext.cell u18 cx16_1), Ext.cell u19 (Ext.cell u18 cx16_2), Ext.cell u19 (Ext.cell u18 cx16_3), Ext.cell u19 (Ext.cell u18 cx17_0), Ext.cell u19 (Ext.cell u18 cx17_1), Ext.cell u19 (Ext.cell u18 cx17_2), Ext.cell u19 (Ext.cell u18 cx17_3)⟩ | exact ⟨Ext.cell u18 cx16_0, Ext.cell u18 cx16_1, Ext.cell u18 cx16_2, Ext.cell u18 cx16_3, Ext.cell u18 cx17_0, Ext.cell u18 cx17_1, Ext.cell u18 cx17_2, Ext.cell u18 cx17_3⟩ | go_keep)
    ((first
      | (go_at_call 24; refine (toRounding_c _ xs2 _ (HA18.out.ext (Ext.refl _).drew) S2.out).mono ?_; rintro e w18 ⟨x18, rfl, o18, u18⟩)
      | (go_at_call 27; refine (eqRounding_t _ _ xs2 _ ((HX18.out.ext (Ext.refl _).drew).ext u18) o18.read).mono ?_; rintro e w19 ⟨rfl, u19⟩)))
  have e19 := ((Ext.refl w15).drew.trans u18).trans u19
  clear o18
  have v19 := v15.trans e19
  have SZ19 := Lib.hid e19.size
  go_wp2
  go_ret
  exact ⟨rfl, v19⟩
end Go.Proofs.Ytmffhipfodlomaa
