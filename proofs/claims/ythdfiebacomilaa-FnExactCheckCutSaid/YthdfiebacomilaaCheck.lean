/- CheckCut, the spec's and the program's. -/
import Derived.Test.YthdfiebacomilaaCutW
namespace Go.Proofs.Ythdfiebacomilaa
open Go.RowKit
noncomputable def checkB (T : Tr) (rows cols : List Int) : Bool := trB T && (risingB (T.rows.length : Int) rows && risingB (T.cols.length : Int) cols)
noncomputable def checkV (T : Tr) (rows cols : List Int) : Bool := checkB T rows cols && cutB T rows cols

set_option maxHeartbeats 3200000 in
theorem specCheck_c (v : Value) (T : Tr) (v1 : Value) (rows : List Int) (v2 : Value) (cols : List Int) (w : World) (h : TrR w v T) (h1 : Ints w v1 rows) (h2 : Ints w v2 cols) :
    Calls Try.prog 14 #[v, v1, v2] w fun e w' => e = .returned (.tuple #[.bool (checkV T rows cols), .bool (checkB T rows cols)]) ∧ Ext w w' := by
  have H := Lib.hid h
  have H1 := Lib.hid h1; clear h1
  have H2 := Lib.hid h2; clear h2
  obtain ⟨a0, c0, a1, c1, a2, c2, a3, c3, rfl, n0, n1, n2, n3⟩ := h.form
  clear h
  have u0 := (Ext.refl w).alloc (.cells #[.slice a0 T.rows.length c0, .slice a1 T.cols.length c1, .slice a2 T.lo.length c2, .slice a3 T.hi.length c3] 29)
  have b0 := Box.new w 29 #[.slice a0 T.rows.length c0, .slice a1 T.cols.length c1, .slice a2 T.lo.length c2, .slice a3 T.hi.length c3] rfl
  have k0 := b0.cell 0 (by simp)
  have k1 := b0.cell 1 (by simp)
  have k2 := b0.cell 2 (by simp)
  have k3 := b0.cell 3 (by simp)
  cases ht : trB T
  · have hB : checkB T rows cols = false := by simp [checkB, ht]
    have hV : checkV T rows cols = false := by simp [checkV, hB]
    rw [hV, hB]; clear hV hB
    have HT := Lib.hid ht; clear ht
    go_enter Try.func14, Try.ntmps14
    go_wp2_with fail
    refine (tGood_b false _ T _ HT.out (H.out.ext u0)).mono ?_
    rintro e w1 ⟨rfl, u1⟩
    go_wp2
    go_ret2
    exact ⟨rfl, u0.trans u1⟩
  have HO := Lib.hid (trB_true.1 ht)
  have d := HO.out.dims
  have dr := d.1
  have dc := d.2.2.1
  have dr8 := d.2.1
  have dc8 := d.2.2.2.1
  clear d
  cases hr : risingB (T.rows.length : Int) rows
  · have hB : checkB T rows cols = false := by simp [checkB, hr]
    have hV : checkV T rows cols = false := by simp [checkV, hB]
    rw [hV, hB]; clear hV hB
    have HT := Lib.hid ht; clear ht
    have HR := Lib.hid hr; clear hr
    go_enter Try.func14, Try.ntmps14
    go_wp2_with fail
    refine (tGood_b true _ T _ HT.out (H.out.ext u0)).mono ?_
    rintro e w1 ⟨rfl, u1⟩
    have b1 := b0.ext u1
    have k0' := b1.cell 0 (by simp)
    have k1' := b1.cell 1 (by simp)
    have k2' := b1.cell 2 (by simp)
    have k3' := b1.cell 3 (by simp)
    have v1 := u0.trans u1
    go_wp2_with fail
    refine (l1Rising_b false _ rows (T.rows.length : Int) _ _ HR.out rfl (H1.out.ext v1)).mono ?_
    rintro e w1 ⟨rfl, rfl⟩
    go_wp2
    go_ret2
    exact ⟨rfl, v1⟩
  cases hc : risingB (T.cols.length : Int) cols
  · have hB : checkB T rows cols = false := by simp [checkB, hc]
    have hV : checkV T rows cols = false := by simp [checkV, hB]
    rw [hV, hB]; clear hV hB
    have HT := Lib.hid ht; clear ht
    have HR := Lib.hid hr; clear hr
    have HC := Lib.hid hc; clear hc
    go_enter Try.func14, Try.ntmps14
    go_wp2_with fail
    refine (tGood_b true _ T _ HT.out (H.out.ext u0)).mono ?_
    rintro e w1 ⟨rfl, u1⟩
    have b1 := b0.ext u1
    have k0' := b1.cell 0 (by simp)
    have k1' := b1.cell 1 (by simp)
    have k2' := b1.cell 2 (by simp)
    have k3' := b1.cell 3 (by simp)
    have v1 := u0.trans u1
    go_wp2_with fail
    refine (l1Rising_b true _ rows (T.rows.length : Int) _ _ HR.out rfl (H1.out.ext v1)).mono ?_
    rintro e w1 ⟨rfl, rfl⟩
    go_wp2_with fail
    refine (l1Rising_b false _ cols (T.cols.length : Int) _ _ HC.out rfl (H2.out.ext v1)).mono ?_
    rintro e w1 ⟨rfl, rfl⟩
    go_wp2
    go_ret2
    exact ⟨rfl, v1⟩
  have hB : checkB T rows cols = true := by simp [checkB, ht, hr, hc]
  have hV : checkV T rows cols = cutB T rows cols := by simp [checkV, hB]
  rw [hV, hB]; clear hV hB
  have HT := Lib.hid ht; clear ht
  have HR := Lib.hid hr; clear hr
  have HC := Lib.hid hc; clear hc
  go_enter Try.func14, Try.ntmps14
  go_wp2_with fail
  refine (tGood_b true _ T _ HT.out (H.out.ext u0)).mono ?_
  rintro e w1 ⟨rfl, u1⟩
  have b1 := b0.ext u1
  have k0' := b1.cell 0 (by simp)
  have k1' := b1.cell 1 (by simp)
  have k2' := b1.cell 2 (by simp)
  have k3' := b1.cell 3 (by simp)
  have v1 := u0.trans u1
  go_wp2_with fail
  refine (l1Rising_b true _ rows (T.rows.length : Int) _ _ HR.out rfl (H1.out.ext v1)).mono ?_
  rintro e w1 ⟨rfl, rfl⟩
  go_wp2_with fail
  refine (l1Rising_b true _ cols (T.cols.length : Int) _ _ HC.out rfl (H2.out.ext v1)).mono ?_
  rintro e w1 ⟨rfl, rfl⟩
  go_wp2_with fail
  refine (tCut_c _ T _ rows _ cols _ (H.out.ext v1) (H1.out.ext v1) (H2.out.ext v1) HO.out (risingB_true.1 HR.out) (risingB_true.1 HC.out)).mono ?_
  rintro e w2 ⟨rfl, u2⟩
  go_wp2
  go_ret2
  exact ⟨rfl, v1.trans u2⟩
set_option maxHeartbeats 3200000 in
theorem implCheck_c (v : Value) (T : Tr) (v1 : Value) (rows : List Int) (v2 : Value) (cols : List Int) (w : World) (h : TrR w v T) (h1 : Ints w v1 rows) (h2 : Ints w v2 cols) :
    Calls Try.prog 17 #[v, v1, v2] w fun e w' => e = .returned (.tuple #[.bool (checkV T rows cols), .bool (checkB T rows cols)]) ∧ Ext w w' := by
  have H := Lib.hid h
  have H1 := Lib.hid h1; clear h1
  have H2 := Lib.hid h2; clear h2
  obtain ⟨a0, c0, a1, c1, a2, c2, a3, c3, rfl, n0, n1, n2, n3⟩ := h.form
  clear h
  have u0 := (Ext.refl w).alloc (.cells #[.slice a0 T.rows.length c0, .slice a1 T.cols.length c1, .slice a2 T.lo.length c2, .slice a3 T.hi.length c3] 29)
  have b0 := Box.new w 29 #[.slice a0 T.rows.length c0, .slice a1 T.cols.length c1, .slice a2 T.lo.length c2, .slice a3 T.hi.length c3] rfl
  have k0 := b0.cell 0 (by simp)
  have k1 := b0.cell 1 (by simp)
  have k2 := b0.cell 2 (by simp)
  have k3 := b0.cell 3 (by simp)
  cases ht : trB T
  · have hB : checkB T rows cols = false := by simp [checkB, ht]
    have hV : checkV T rows cols = false := by simp [checkV, hB]
    rw [hV, hB]; clear hV hB
    have HT := Lib.hid ht; clear ht
    go_enter Try.func17, Try.ntmps17
    go_wp2_with fail
    refine (implIsTransport_b false _ T _ HT.out (H.out.ext u0)).mono ?_
    rintro e w1 ⟨rfl, u1⟩
    go_wp2
    go_ret2
    exact ⟨rfl, u0.trans u1⟩
  have HO := Lib.hid (trB_true.1 ht)
  have d := HO.out.dims
  have dr := d.1
  have dc := d.2.2.1
  have dr8 := d.2.1
  have dc8 := d.2.2.2.1
  clear d
  cases hr : risingB (T.rows.length : Int) rows
  · have hB : checkB T rows cols = false := by simp [checkB, hr]
    have hV : checkV T rows cols = false := by simp [checkV, hB]
    rw [hV, hB]; clear hV hB
    have HT := Lib.hid ht; clear ht
    have HR := Lib.hid hr; clear hr
    go_enter Try.func17, Try.ntmps17
    go_wp2_with fail
    refine (implIsTransport_b true _ T _ HT.out (H.out.ext u0)).mono ?_
    rintro e w1 ⟨rfl, u1⟩
    have b1 := b0.ext u1
    have k0' := b1.cell 0 (by simp)
    have k1' := b1.cell 1 (by simp)
    have k2' := b1.cell 2 (by simp)
    have k3' := b1.cell 3 (by simp)
    have v1 := u0.trans u1
    go_wp2_with fail
    refine (areIndices_b false _ rows (T.rows.length : Int) _ HR.out (H1.out.ext v1)).mono ?_
    rintro e w1 ⟨rfl, rfl⟩
    go_wp2
    go_ret2
    exact ⟨rfl, v1⟩
  cases hc : risingB (T.cols.length : Int) cols
  · have hB : checkB T rows cols = false := by simp [checkB, hc]
    have hV : checkV T rows cols = false := by simp [checkV, hB]
    rw [hV, hB]; clear hV hB
    have HT := Lib.hid ht; clear ht
    have HR := Lib.hid hr; clear hr
    have HC := Lib.hid hc; clear hc
    go_enter Try.func17, Try.ntmps17
    go_wp2_with fail
    refine (implIsTransport_b true _ T _ HT.out (H.out.ext u0)).mono ?_
    rintro e w1 ⟨rfl, u1⟩
    have b1 := b0.ext u1
    have k0' := b1.cell 0 (by simp)
    have k1' := b1.cell 1 (by simp)
    have k2' := b1.cell 2 (by simp)
    have k3' := b1.cell 3 (by simp)
    have v1 := u0.trans u1
    go_wp2_with fail
    refine (areIndices_b true _ rows (T.rows.length : Int) _ HR.out (H1.out.ext v1)).mono ?_
    rintro e w1 ⟨rfl, rfl⟩
    go_wp2_with fail
    refine (areIndices_b false _ cols (T.cols.length : Int) _ HC.out (H2.out.ext v1)).mono ?_
    rintro e w1 ⟨rfl, rfl⟩
    go_wp2
    go_ret2
    exact ⟨rfl, v1⟩
  have hB : checkB T rows cols = true := by simp [checkB, ht, hr, hc]
  have hV : checkV T rows cols = cutB T rows cols := by simp [checkV, hB]
  rw [hV, hB]; clear hV hB
  have HT := Lib.hid ht; clear ht
  have HR := Lib.hid hr; clear hr
  have HC := Lib.hid hc; clear hc
  go_enter Try.func17, Try.ntmps17
  go_wp2_with fail
  refine (implIsTransport_b true _ T _ HT.out (H.out.ext u0)).mono ?_
  rintro e w1 ⟨rfl, u1⟩
  have b1 := b0.ext u1
  have k0' := b1.cell 0 (by simp)
  have k1' := b1.cell 1 (by simp)
  have k2' := b1.cell 2 (by simp)
  have k3' := b1.cell 3 (by simp)
  have v1 := u0.trans u1
  go_wp2_with fail
  refine (areIndices_b true _ rows (T.rows.length : Int) _ HR.out (H1.out.ext v1)).mono ?_
  rintro e w1 ⟨rfl, rfl⟩
  go_wp2_with fail
  refine (areIndices_b true _ cols (T.cols.length : Int) _ HC.out (H2.out.ext v1)).mono ?_
  rintro e w1 ⟨rfl, rfl⟩
  go_wp2_with fail
  refine (isCut_c _ T _ rows _ cols _ (H.out.ext v1) (H1.out.ext v1) (H2.out.ext v1) HO.out (risingB_true.1 HR.out) (risingB_true.1 HC.out)).mono ?_
  rintro e w2 ⟨rfl, u2⟩
  go_wp2
  go_ret2
  exact ⟨rfl, v1.trans u2⟩
end Go.Proofs.Ythdfiebacomilaa
