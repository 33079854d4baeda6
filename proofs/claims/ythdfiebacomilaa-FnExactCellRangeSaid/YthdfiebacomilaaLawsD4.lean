/- The law on CellRange. -/
import Derived.Test.YthdfiebacomilaaCellR
import Derived.Test.YthdfiebacomilaaRgOf
import Derived.Deep.RegionHeld3
namespace Go.Proofs.Ythdfiebacomilaa
open Go.RowKit

set_option maxHeartbeats 3200000 in
theorem lawCellRange_c (v0 : Value) (xs0 : Tr) (a1 : Int) (a2 : Int) (w : World) (h0 : TrR w v0 xs0) (_ : TrWf xs0) (i1 : -9223372036854775808 ≤ a1 ∧ a1 ≤ 9223372036854775807) (i2 : -9223372036854775808 ≤ a2 ∧ a2 ≤ 9223372036854775807) :
    Calls Try.prog 7 #[v0, .int .i64 a1, .int .i64 a2] w fun e w' => e = .returned (.bool true) ∧ Ext w w' := by
  have H0 := Lib.hid h0
  obtain ⟨ao0_0, cap0_0, ao0_1, cap0_1, ao0_2, cap0_2, ao0_3, cap0_3, rfl, _, _, _, _⟩ := h0.form; clear h0
  have I1 := Lib.hid i1; clear i1
  have I2 := Lib.hid i2; clear i2
  have ba0 := Box.new w 25 #[.slice ao0_0 xs0.rows.length cap0_0, .slice ao0_1 xs0.cols.length cap0_1, .slice ao0_2 xs0.lo.length cap0_2, .slice ao0_3 xs0.hi.length cap0_3] rfl
  have SZ0_0 : Hid ((w.alloc (.cells #[.slice ao0_0 xs0.rows.length cap0_0, .slice ao0_1 xs0.cols.length cap0_1, .slice ao0_2 xs0.lo.length cap0_2, .slice ao0_3 xs0.hi.length cap0_3] 25)).heap.size = w.heap.size + 1) := Lib.hid (by simp)
  have v0 := ((Ext.refl w).alloc (.cells #[.slice ao0_0 xs0.rows.length cap0_0, .slice ao0_1 xs0.cols.length cap0_1, .slice ao0_2 xs0.lo.length cap0_2, .slice ao0_3 xs0.hi.length cap0_3] 25))
  obtain ⟨V0, hV0⟩ : ∃ V, crLo xs0 a1 a2 = V := ⟨_, rfl⟩
  have HV0 := Lib.hid hV0; clear hV0
  have qv0 : (V0 != V0) = false := by simp
  have qw0 : decide (V0 = V0) = true := by simp
  obtain ⟨V1, hV1⟩ : ∃ V, crHi xs0 a1 a2 = V := ⟨_, rfl⟩
  have HV1 := Lib.hid hV1; clear hV1
  have qv1 : (V1 != V1) = false := by simp
  have qw1 : decide (V1 = V1) = true := by simp
  obtain ⟨V2, hV2⟩ : ∃ V, crB xs0 a1 a2 = V := ⟨_, rfl⟩
  have HV2 := Lib.hid hV2; clear hV2
  have qv2 : (V2 != V2) = false := by simp
  go_enter Try.func7, Try.ntmps7
  have bx1 := ba0
  have cx1_0 := bx1.cell 0 (by simp)
  have cx1_1 := bx1.cell 1 (by simp)
  have cx1_2 := bx1.cell 2 (by simp)
  have cx1_3 := bx1.cell 3 (by simp)
  go_wp2_with fail
  refine (szTransport_c _ xs0 1048576 _ (H0.out.ext v0) (by omega)).mono ?_
  rintro e w2 ⟨t0, rfl, hr0, u2⟩
  have v2 := v0.trans u2
  have SZ2 := Lib.hid u2.size
  rcases hr0 with hr0 | ⟨hr0, hq0, hs0⟩
  · go_wp2
    go_ret
    exact ⟨rfl, v2⟩
  have hz0 : ¬ (t0 < 0) := by omega
  have tr0 : 0 ≤ t0 ∧ t0 ≤ 1048576 := by omega
  have S0 := Lib.hid hs0; clear hs0 hr0 hq0
  have bx3 := (ba0.ext u2)
  have cx3_0 := bx3.cell 0 (by simp)
  have cx3_1 := bx3.cell 1 (by simp)
  have cx3_2 := bx3.cell 2 (by simp)
  have cx3_3 := bx3.cell 3 (by simp)
  go_wp2_with fail
  refine (toTransport_c _ xs0 _ (H0.out.ext v2) S0.out).mono ?_
  rintro e w4 ⟨x4, rfl, o4, u4⟩
  have v4 := v2.trans u4
  have SZ4 := Lib.hid u4.size
  have O4 := Lib.hid o4
  clear o4
  have RS_4 := Lib.hid u4.size
  go_wp2_with fail
  refine (specCell_c _ xs0 a1 a2 _ O4.out.read ).mono ?_
  rw [HV0.out]
  rw [HV1.out]
  rw [HV2.out]
  rintro e w5 ⟨rfl, u5⟩
  have v5 := v4.trans u5
  have SZ5 := Lib.hid u5.size
  have bx6 := (((ba0.ext u2).ext u4).ext u5)
  have cx6_0 := bx6.cell 0 (by simp)
  have cx6_1 := bx6.cell 1 (by simp)
  have cx6_2 := bx6.cell 2 (by simp)
  have cx6_3 := bx6.cell 3 (by simp)
  go_wp2_with fail
  refine (toTransport_c _ xs0 _ (H0.out.ext v5) S0.out).mono ?_
  rintro e w7 ⟨x7, rfl, o7, u7⟩
  have v7 := v5.trans u7
  have SZ7 := Lib.hid u7.size
  have O7 := Lib.hid o7
  clear o7
  have RS_7 := Lib.hid u7.size
  obtain ⟨a7_0, cp7_0, a7_1, cp7_1, a7_2, cp7_2, a7_3, cp7_3, hxx7, _, _, _, _⟩ := O7.out.read.form
  subst hxx7
  have bo7 := Box.new w7 29 #[.slice a7_0 xs0.rows.length cp7_0, .slice a7_1 xs0.cols.length cp7_1, .slice a7_2 xs0.lo.length cp7_2, .slice a7_3 xs0.hi.length cp7_3] rfl
  have u8 := (Ext.refl w7).alloc (.cells #[.slice a7_0 xs0.rows.length cp7_0, .slice a7_1 xs0.cols.length cp7_1, .slice a7_2 xs0.lo.length cp7_2, .slice a7_3 xs0.hi.length cp7_3] 29)
  have v8 := v7.trans u8
  have SZ8 := Lib.hid u8.size
  have SA8 : Hid ((w7.alloc (.cells #[.slice a7_0 xs0.rows.length cp7_0, .slice a7_1 xs0.cols.length cp7_1, .slice a7_2 xs0.lo.length cp7_2, .slice a7_3 xs0.hi.length cp7_3] 29)).heap.size = w7.heap.size + 1) := Lib.hid (by simp)
  have bx9 := bo7
  have cx9_0 := bx9.cell 0 (by simp)
  have cx9_1 := bx9.cell 1 (by simp)
  have cx9_2 := bx9.cell 2 (by simp)
  have cx9_3 := bx9.cell 3 (by simp)
  go_wp2_with fail
  refine (implCell_c _ xs0 a1 a2 _ (O7.out.ext u8).read ).mono ?_
  rw [HV0.out]
  rw [HV1.out]
  rw [HV2.out]
  rintro e w10 ⟨rfl, u10⟩
  have v10 := v8.trans u10
  have SZ10 := Lib.hid u10.size
  have bx11 := ((((((ba0.ext u2).ext u4).ext u5).ext u7).ext u8).ext u10)
  have cx11_0 := bx11.cell 0 (by simp)
  have cx11_1 := bx11.cell 1 (by simp)
  have cx11_2 := bx11.cell 2 (by simp)
  have cx11_3 := bx11.cell 3 (by simp)
  have bx12 := (bo7.ext u10)
  have cx12_0 := bx12.cell 0 (by simp)
  have cx12_1 := bx12.cell 1 (by simp)
  have cx12_2 := bx12.cell 2 (by simp)
  have cx12_3 := bx12.cell 3 (by simp)
  have HA13 := Lib.hid ((H0.out.ext v10))
  have HX13 := Lib.hid (((O7.out.ext u8).ext u10).read)
  go_wp2_with fail
  go_region_held3 (fun w' => w'.cell? ⟨w.heap.size, 0, none⟩ = some (.slice ao0_0 xs0.rows.length cap0_0) ∧ w'.cell? ⟨w.heap.size, 1, none⟩ = some (.slice ao0_1 xs0.cols.length cap0_1) ∧ w'.cell? ⟨w.heap.size, 2, none⟩ = some (.slice ao0_2 xs0.lo.length cap0_2) ∧ w'.cell? ⟨w.heap.size, 3, none⟩ = some (.slice ao0_3 xs0.hi.length cap0_3) ∧ w'.cell? ⟨w7.heap.size, 0, none⟩ = some (.slice a7_0 xs0.rows.length cp7_0) ∧ w'.cell? ⟨w7.heap.size, 1, none⟩ = some (.slice a7_1 xs0.cols.length cp7_1) ∧ w'.cell? ⟨w7.heap.size, 2, none⟩ = some (.slice a7_2 xs0.lo.length cp7_2) ∧ w'.cell? ⟨w7.heap.size, 3, none⟩ = some (.slice a7_3 xs0.hi.length cp7_3))
    (first | exact ⟨Ext.cell u14 (Ext.cell u13 cx11_0), Ext.cell u14 (Ext.cell u13 cx11_1), Ext.cell u14 (Ext.cell u13 cx11_2), Ext.cell u14 (Ext.cell u13 cx11_3), Ext.cell u14 (Ext.cell u13 cx12_0), Ext.cell u14 (Ext.cell u13 cx12_1), Ext.cell u14 (Ext.cell u13 cx12_2), Ext.cell u14 (Ext.cell u13 cx12_3)⟩ | exact ⟨Ext.cell u13 cx11_0, Ext.cell u13 cx11_1, Ext.cell u13 cx11_2, Ext.cell u13 cx11_3, Ext.cell u13 cx12_0, Ext.cell u13 cx12_1, Ext.cell u13 cx12_2, Ext.cell u13 cx12_3⟩ | go_keep)
    ((first
      | (go_at_call 15; refine (toTransport_c _ xs0 _ (HA13.out.ext (Ext.refl _).drew) S0.out).mono ?_; rintro e w13 ⟨x13, rfl, o13, u13⟩)
      | (go_at_call 18; refine (eqTransport_t _ _ xs0 _ ((HX13.out.ext (Ext.refl _).drew).ext u13) o13.read).mono ?_; rintro e w14 ⟨rfl, u14⟩)))
  have e14 := ((Ext.refl w10).drew.trans u13).trans u14
  clear o13
  have v14 := v10.trans e14
  have SZ14 := Lib.hid e14.size
  go_wp2
  go_ret
  exact ⟨rfl, v14⟩
end Go.Proofs.Ythdfiebacomilaa
