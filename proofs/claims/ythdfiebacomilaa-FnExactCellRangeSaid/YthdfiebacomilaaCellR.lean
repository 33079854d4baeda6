/- The least and the greatest value of an element in all flows, the spec's and the program's: CellRange. -/
import Derived.Test.YthdfiebacomilaaSrange
import Derived.Test.YthdfiebacomilaaRangeW
namespace Go.Proofs.Ythdfiebacomilaa
open Go.RowKit
open Fm

def okIJ (T : Tr) (i j : Int) : Bool := (decide (0 ≤ i) && decide (i < T.rows.length)) && (decide (0 ≤ j) && decide (j < T.cols.length))
noncomputable def crB (T : Tr) (i j : Int) : Bool := trB T && (okIJ T i j && feasB T)
noncomputable def crLo (T : Tr) (i j : Int) : Int := if crB T i j = true then lowV T i.toNat j.toNat else 0
noncomputable def crHi (T : Tr) (i j : Int) : Int := if crB T i j = true then highV T i.toNat j.toNat else 0
theorem cr_off {T : Tr} {i j : Int} (h : crB T i j = false) : crLo T i j = 0 ∧ crHi T i j = 0 := by simp [crLo, crHi, h]
theorem cr_on {T : Tr} {i j : Nat} {b : Bool} (ht : trB T = true) (hi : i < T.rows.length) (hj : j < T.cols.length) (hb : feasB T = b) :
    crB T i j = b ∧ crLo T i j = (if b = true then lowV T i j else 0) ∧ crHi T i j = (if b = true then highV T i j else 0) := by
  have e : crB T i j = b := by simp [crB, okIJ, ht, hb, hi, hj]
  refine ⟨e, ?_, ?_⟩
  · simp [crLo, e]
  · simp [crHi, e]

set_option maxRecDepth 100000 in
set_option maxHeartbeats 3200000 in
theorem specCell_c (v : Value) (T : Tr) (i j : Int) (w : World) (h : TrR w v T) :
    Calls Try.prog 29 #[v, .int .i64 i, .int .i64 j] w fun e w' => e = .returned (.tuple #[.int .i64 (crLo T i j), .int .i64 (crHi T i j), .bool (crB T i j)]) ∧ Ext w w' := by
  have H := Lib.hid h
  obtain ⟨a0, c0, a1, c1, a2, c2, a3, c3, rfl, n0, n1, n2, n3⟩ := h.form
  clear h
  have u0 := (Ext.refl w).alloc (.cells #[.slice a0 T.rows.length c0, .slice a1 T.cols.length c1, .slice a2 T.lo.length c2, .slice a3 T.hi.length c3] 29)
  have b0 := Box.new w 29 #[.slice a0 T.rows.length c0, .slice a1 T.cols.length c1, .slice a2 T.lo.length c2, .slice a3 T.hi.length c3] rfl
  have k0 := b0.cell 0 (by simp)
  have k1 := b0.cell 1 (by simp)
  have k2 := b0.cell 2 (by simp)
  have k3 := b0.cell 3 (by simp)
  cases ht : trB T
  · have hB : crB T i j = false := by simp [crB, ht]
    rw [(cr_off hB).1, (cr_off hB).2, hB]
    clear hB
    have HT := Lib.hid ht; clear ht
    go_enter Try.func29, Try.ntmps29
    go_wp2_with fail
    refine (tGood_b false _ T _ HT.out (H.out.ext u0)).mono ?_
    rintro e w1 ⟨rfl, u1⟩
    go_wp2
    go_ret3
    exact ⟨rfl, u0.trans u1⟩
  have HT := Lib.hid ht; clear ht
  have HO := Lib.hid (trB_true.1 HT.out)
  have hd := HO.out.dims
  have d1 := hd.1
  have d3 := hd.2.2.1
  have d2 := hd.2.1
  have d4 := hd.2.2.2.1
  clear hd
  by_cases hi : 0 ≤ i ∧ i < T.rows.length
  case neg =>
    have hB : crB T i j = false := by
      have : (decide (0 ≤ i) && decide (i < T.rows.length)) = false := by rw [Bool.and_eq_false_iff]; simp only [decide_eq_false_iff_not]; omega
      simp only [crB, okIJ, this, Bool.false_and, Bool.and_false]
    rw [(cr_off hB).1, (cr_off hB).2, hB]
    clear hB
    have HI : Hid ((decide (0 ≤ i) && decide (i ≤ (T.rows.length : Int) - 1)) = false) := Lib.hid (by rw [Bool.and_eq_false_iff]; simp only [decide_eq_false_iff_not]; omega)
    clear hi
    go_enter Try.func29, Try.ntmps29
    go_wp2_with fail
    refine (tGood_b true _ T _ HT.out (H.out.ext u0)).mono ?_
    rintro e w1 ⟨rfl, u1⟩
    have b1 := b0.ext u1
    have y0 := b1.cell 0 (by simp)
    have y1 := b1.cell 1 (by simp)
    go_wp2_with fail
    refine (l1In_b false i 0 ((T.rows.length : Int) - 1) _ HI.out).mono ?_
    rintro e w1 ⟨rfl, rfl⟩
    go_wp2
    go_ret3
    exact ⟨rfl, u0.trans u1⟩
  have HI : Hid ((decide (0 ≤ i) && decide (i ≤ (T.rows.length : Int) - 1)) = true) := Lib.hid (by rw [Bool.and_eq_true]; simp only [decide_eq_true_eq]; omega)
  by_cases hj : 0 ≤ j ∧ j < T.cols.length
  case neg =>
    have hB : crB T i j = false := by
      have : (decide (0 ≤ j) && decide (j < T.cols.length)) = false := by rw [Bool.and_eq_false_iff]; simp only [decide_eq_false_iff_not]; omega
      simp only [crB, okIJ, this, Bool.false_and, Bool.and_false]
    rw [(cr_off hB).1, (cr_off hB).2, hB]
    clear hB
    have HJ : Hid ((decide (0 ≤ j) && decide (j ≤ (T.cols.length : Int) - 1)) = false) := Lib.hid (by rw [Bool.and_eq_false_iff]; simp only [decide_eq_false_iff_not]; omega)
    clear hi hj
    go_enter Try.func29, Try.ntmps29
    go_wp2_with fail
    refine (tGood_b true _ T _ HT.out (H.out.ext u0)).mono ?_
    rintro e w1 ⟨rfl, u1⟩
    have b1 := b0.ext u1
    have y0 := b1.cell 0 (by simp)
    have y1 := b1.cell 1 (by simp)
    go_wp2_with fail
    refine (l1In_b true i 0 ((T.rows.length : Int) - 1) _ HI.out).mono ?_
    rintro e w1 ⟨rfl, rfl⟩
    go_wp2_with fail
    refine (l1In_b false j 0 ((T.cols.length : Int) - 1) _ HJ.out).mono ?_
    rintro e w1 ⟨rfl, rfl⟩
    go_wp2
    go_ret3
    exact ⟨rfl, u0.trans u1⟩
  have HJ : Hid ((decide (0 ≤ j) && decide (j ≤ (T.cols.length : Int) - 1)) = true) := Lib.hid (by rw [Bool.and_eq_true]; simp only [decide_eq_true_eq]; omega)
  obtain ⟨i', rfl⟩ : ∃ k : Nat, i = k := ⟨i.toNat, by omega⟩
  obtain ⟨j', rfl⟩ : ∃ k : Nat, j = k := ⟨j.toNat, by omega⟩
  obtain ⟨b, hb⟩ : ∃ b, feasB T = b := ⟨_, rfl⟩
  have hc := cr_on HT.out (i := i') (j := j') (by omega) (by omega) hb
  rw [hc.1, hc.2.1, hc.2.2]
  clear hc
  have HB := Lib.hid hb; clear hb
  have hi2 : i' < T.rows.length := by omega
  have hj2 : j' < T.cols.length := by omega
  have e2 : T.lo.length = T.rows.length := HO.out.rcLo.len
  have e3 : T.hi.length = T.rows.length := HO.out.rcHi.len
  rw [e2, e3] at b0 k2 k3 u0 H ⊢
  clear e2 e3 hi hj
  obtain ⟨VL, hVL⟩ : ∃ V, (if b = true then lowV T i' j' else 0) = V := ⟨_, rfl⟩
  obtain ⟨VH, hVH⟩ : ∃ V, (if b = true then highV T i' j' else 0) = V := ⟨_, rfl⟩
  rw [hVL, hVH]
  have HVL := Lib.hid hVL; clear hVL
  have HVH := Lib.hid hVH; clear hVH
  go_enter Try.func29, Try.ntmps29
  go_wp2_with fail
  refine (tGood_b true _ T _ HT.out (H.out.ext u0)).mono ?_
  rintro e w1 ⟨rfl, u1⟩
  have b1 := b0.ext u1
  have y0 := b1.cell 0 (by simp)
  have y1 := b1.cell 1 (by simp)
  have y2 := b1.cell 2 (by simp)
  have y3 := b1.cell 3 (by simp)
  go_wp2_with fail
  refine (l1In_b true i' 0 ((T.rows.length : Int) - 1) _ HI.out).mono ?_
  rintro e w1 ⟨rfl, rfl⟩
  go_wp2_with fail
  refine (l1In_b true j' 0 ((T.cols.length : Int) - 1) _ HJ.out).mono ?_
  rintro e w1 ⟨rfl, rfl⟩
  go_wp2_with fail
  refine (tRange_c b T a0 a1 a2 a3 c0 c1 c2 c3 T.rows.length T.cols.length i' j' _ HB.out rfl rfl (H.out.ext (u0.trans u1)) HO.out hi2 hj2).mono ?_
  rw [HVL.out, HVH.out]
  rintro e w2 ⟨rfl, u2⟩
  go_wp2
  go_ret3
  exact ⟨rfl, (u0.trans u1).trans u2⟩
set_option maxRecDepth 100000 in
set_option maxHeartbeats 3200000 in
theorem implCell_c (v : Value) (T : Tr) (i j : Int) (w : World) (h : TrR w v T) :
    Calls Try.prog 30 #[v, .int .i64 i, .int .i64 j] w fun e w' => e = .returned (.tuple #[.int .i64 (crLo T i j), .int .i64 (crHi T i j), .bool (crB T i j)]) ∧ Ext w w' := by
  have H := Lib.hid h
  obtain ⟨a0, c0, a1, c1, a2, c2, a3, c3, rfl, n0, n1, n2, n3⟩ := h.form
  clear h
  have u0 := (Ext.refl w).alloc (.cells #[.slice a0 T.rows.length c0, .slice a1 T.cols.length c1, .slice a2 T.lo.length c2, .slice a3 T.hi.length c3] 29)
  have b0 := Box.new w 29 #[.slice a0 T.rows.length c0, .slice a1 T.cols.length c1, .slice a2 T.lo.length c2, .slice a3 T.hi.length c3] rfl
  have k0 := b0.cell 0 (by simp)
  have k1 := b0.cell 1 (by simp)
  have k2 := b0.cell 2 (by simp)
  have k3 := b0.cell 3 (by simp)
  have q22 : ∀ (w : World) (a : Option Addr) (n c : Nat), (binOp .eql 23 (.slice a n c) (.slice none 0 0)).run Try.prog w = .ok (.bool a.isNone) w := fun w a n c => Go.Lib.run_eql_slice_nil w _ _ a n c 0 0 Try.underlying23
  cases ht : trB T
  · have hB : crB T i j = false := by simp [crB, ht]
    rw [(cr_off hB).1, (cr_off hB).2, hB]
    clear hB
    have HT := Lib.hid ht; clear ht
    go_enter Try.func30, Try.ntmps30
    go_wp2_with fail
    refine (implIsTransport_b false _ T _ HT.out (H.out.ext u0)).mono ?_
    rintro e w1 ⟨rfl, u1⟩
    go_wp2
    go_ret3
    exact ⟨rfl, u0.trans u1⟩
  have HT := Lib.hid ht; clear ht
  have HO := Lib.hid (trB_true.1 HT.out)
  by_cases hij : (0 ≤ i ∧ i < T.rows.length) ∧ (0 ≤ j ∧ j < T.cols.length)
  case neg =>
    have hB : crB T i j = false := by
      have : okIJ T i j = false := by
        apply Bool.eq_false_iff.2
        intro e
        simp only [okIJ, Bool.and_eq_true, decide_eq_true_eq] at e
        exact hij e
      simp only [crB, this, Bool.false_and, Bool.and_false]
    rw [(cr_off hB).1, (cr_off hB).2, hB]
    clear hB
    go_enter Try.func30, Try.ntmps30
    go_wp2_with fail
    refine (implIsTransport_b true _ T _ HT.out (H.out.ext u0)).mono ?_
    rintro e w1 ⟨rfl, u1⟩
    have b1 := b0.ext u1
    have y0 := b1.cell 0 (by simp)
    have y1 := b1.cell 1 (by simp)
    by_cases p1 : i < 0
    · go_wp2
      go_ret3
      exact ⟨rfl, u0.trans u1⟩
    by_cases p2 : (T.rows.length : Int) ≤ i
    · go_wp2
      go_ret3
      exact ⟨rfl, u0.trans u1⟩
    by_cases p3 : j < 0
    · go_wp2
      go_ret3
      exact ⟨rfl, u0.trans u1⟩
    have p4 : (T.cols.length : Int) ≤ j := by omega
    go_wp2
    go_ret3
    exact ⟨rfl, u0.trans u1⟩
  obtain ⟨hi, hj⟩ := hij
  obtain ⟨i', rfl⟩ : ∃ k : Nat, i = k := ⟨i.toNat, by omega⟩
  obtain ⟨j', rfl⟩ : ∃ k : Nat, j = k := ⟨j.toNat, by omega⟩
  have hi2 : i' < T.rows.length := by omega
  have hj2 : j' < T.cols.length := by omega
  clear hi hj
  by_cases hfe : ∃ x, Flow (NetT T) x
  case neg =>
    have hc := cr_on HT.out hi2 hj2 (feasB_not hfe)
    rw [hc.1, hc.2.1, hc.2.2]
    clear hc
    have HF := Lib.hid hfe; clear hfe
    go_enter Try.func30, Try.ntmps30
    go_wp2_with fail
    refine (implIsTransport_b true _ T _ HT.out (H.out.ext u0)).mono ?_
    rintro e w1 ⟨rfl, u1⟩
    have b1 := b0.ext u1
    have y0 := b1.cell 0 (by simp)
    have y1 := b1.cell 1 (by simp)
    have y2 := b1.cell 2 (by simp)
    have y3 := b1.cell 3 (by simp)
    have v1 := u0.trans u1
    go_wp2_with fail
    refine (anyFlow_c _ T _ (H.out.ext v1) HO.out).mono ?_
    rintro e w2 ⟨x2, rfl, u2, hp⟩
    rcases hp with ⟨rfl, hno⟩ | ⟨rvs, X, b, o, cap, rfl, oX, rcX, hfl⟩
    · clear hno
      go_wp2
      go_ret3
      exact ⟨rfl, v1.trans u2⟩
    · exact absurd ⟨_, hfl⟩ HF.out
  have hc := cr_on HT.out hi2 hj2 (feasB_of hfe)
  rw [hc.1, hc.2.1, hc.2.2]
  simp only [if_true]
  clear hc
  have HF := Lib.hid hfe; clear hfe
  have e2 : T.lo.length = T.rows.length := HO.out.rcLo.len
  have e3 : T.hi.length = T.rows.length := HO.out.rcHi.len
  rw [e2, e3] at b0 k2 k3 u0 H ⊢
  clear e2 e3
  obtain ⟨VL, hVL⟩ : ∃ V, lowV T i' j' = V := ⟨_, rfl⟩
  obtain ⟨VH, hVH⟩ : ∃ V, highV T i' j' = V := ⟨_, rfl⟩
  rw [hVL, hVH]
  have HVL := Lib.hid hVL; clear hVL
  have HVH := Lib.hid hVH; clear hVH
  go_enter Try.func30, Try.ntmps30
  go_wp2_with fail
  refine (implIsTransport_b true _ T _ HT.out (H.out.ext u0)).mono ?_
  rintro e w1 ⟨rfl, u1⟩
  have b1 := b0.ext u1
  have y0 := b1.cell 0 (by simp)
  have y1 := b1.cell 1 (by simp)
  have y2 := b1.cell 2 (by simp)
  have y3 := b1.cell 3 (by simp)
  have v1 := u0.trans u1
  go_wp2_with fail
  refine (anyFlow_c _ T _ (H.out.ext v1) HO.out).mono ?_
  rintro e w2 ⟨x2, rfl, u2, hp⟩
  rcases hp with ⟨_, hno⟩ | ⟨rvs, X, b, o, cap, rfl, oX, rcX, hfl⟩
  · exact absurd HF.out hno
  · have hG := oX.grid
    have HG := Lib.hid hG; clear hG oX
    have HR := Lib.hid rcX; clear rcX
    have HFL := Lib.hid hfl; clear hfl
    have b2 := b1.ext u2
    have z0 := b2.cell 0 (by simp)
    have z1 := b2.cell 1 (by simp)
    have z2 := b2.cell 2 (by simp)
    have z3 := b2.cell 3 (by simp)
    have v2 := v1.trans u2
    go_wp2_with fail
    refine (rangeOf_c T X a0 a1 a2 a3 (some ⟨b, o, none⟩) c0 c1 c2 c3 cap T.rows.length T.cols.length i' j' _ rfl rfl (H.out.ext v2) HG.out HO.out HR.out HFL.out hi2 hj2).mono ?_
    rw [HVL.out, HVH.out]
    rintro e w3 ⟨rfl, u3⟩
    go_wp2
    go_ret3
    exact ⟨rfl, v2.trans u3⟩
end Go.Proofs.Ythdfiebacomilaa
