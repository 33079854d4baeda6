/- The cells of one table out of those of another: the program's DeriveCells. -/
import Derived.Test.YtolmmhdeebgglaaDe
import Derived.Test.YtolmmhdeebgglaaTh
namespace Go.Proofs.Ytolmmhdeebgglaa
open Go.RowKit

noncomputable def okB (par : List Int) (s : List Vr) (t u : Ta) (cells : List Int) : Bool := allB par s t && (tabB par s u && (smallB (uCnt par s u) cells && folB par s t u))
theorem okB_true {par : List Int} {s : List Vr} {t u : Ta} {cells : List Int} : okB par s t u cells = true ↔ DvOk par s t u cells := by
  unfold okB
  rw [Bool.and_eq_true, Bool.and_eq_true, Bool.and_eq_true, allB_true, tabB_true, smallB_true, folB_true]
  exact ⟨fun ⟨⟨a, b, c⟩, d, e, f⟩ => ⟨a, b, c, d, f, e⟩, fun h => ⟨⟨h.geo, h.sch, h.ht⟩, h.hu, h.small, h.fol⟩⟩
noncomputable def dvV (par : List Int) (s : List Vr) (t u : Ta) (cells : List Int) : List Int := if okB par s t u cells = true then dvTo par s t u cells cells.length else []
theorem dvV_len (par : List Int) (s : List Vr) (t u : Ta) (cells : List Int) : (dvV par s t u cells).length ≤ 1048576 := by
  unfold dvV
  split
  · next h =>
    rw [dv_len]
    have := (okB_true.1 h).ht.2.2.2.2
    omega
  · simp
theorem dv_set {par : List Int} {s : List Vr} {t u : Ta} {cells : List Int} (h : DvOk par s t u cells) {i : Nat} (hi : i < cells.length) {k j : Nat} (hk : keyI par s t u i = k) :
    ix (dvTo par s t u cells (i + 1)) j = if inI s t u i = true then (if j = k then ix (dvTo par s t u cells i) k + ix cells i * timesI s t u i else ix (dvTo par s t u cells i) j) else ix (dvTo par s t u cells i) j := by
  have hkl : k < (dvTo par s t u cells i).length := by have := (h.cell hi).key; rw [dv_len]; omega
  have ek : ((k : Int)).toNat = k := by omega
  simp only [dvTo]
  split
  · rw [hk, ek, ix_set]
    by_cases e : j = k
    · rw [if_pos ⟨e, hkl⟩, if_pos e]
    · rw [if_neg (fun h => e h.1), if_neg e]
  · rfl

set_option maxRecDepth 100000 in
set_option maxHeartbeats 6400000 in
theorem implDerive_c (v1 v2 v3 v4 v5 : Value) (T : Ge) (s : List Vr) (t u : Ta) (cells : List Int) (w : World) (h1 : GeR w v1 T) (h2 : Vrs w v2 s) (h3 : TaR w v3 t) (h4 : TaR w v4 u) (h5 : Ints w v5 cells) (hw : WfV s) :
    Calls Try.prog 32 #[v1, v2, v3, v4, v5] w (RetInts (fun v' => .tuple #[v', .bool (okB T.par s t u cells)]) w (dvV T.par s t u cells)) := by
  have HWF := Lib.hid hw; clear hw
  have R5 := Lib.hid h5
  obtain ⟨a5, c5, rfl, p5, q5, g5⟩ := h5
  obtain ⟨n, hn⟩ : ∃ n, cells.length = n := ⟨_, rfl⟩
  rw [hn] at R5 p5 ⊢
  have G5 := Lib.hid g5; clear g5
  have HN := Lib.hid hn; clear hn
  have R1 := Lib.hid h1
  have R2 := Lib.hid h2; clear h2
  have R3 := Lib.hid h3
  have R4 := Lib.hid h4
  obtain ⟨y1, rfl, i1⟩ := h1
  clear i1
  obtain ⟨xa31, xm31, xa32, xm32, rfl, hx31, hx32⟩ := h3.form
  clear h3
  obtain ⟨A3, hA3⟩ : ∃ A, t.level = A := ⟨_, rfl⟩
  obtain ⟨B3, hB3⟩ : ∃ B, t.sum = B := ⟨_, rfl⟩
  obtain ⟨VL3, hVL3⟩ : ∃ B, t.vars.length = B := ⟨_, rfl⟩
  obtain ⟨CL3, hCL3⟩ : ∃ B, t.cond.length = B := ⟨_, rfl⟩
  rw [hA3, hB3, hVL3, hCL3] at R3
  rw [hVL3] at hx31
  rw [hCL3] at hx32
  rw [hA3, hB3, hVL3, hCL3]
  have HLA3 := Lib.hid hA3
  have HLB3 := Lib.hid hB3
  have HVL3 := Lib.hid hVL3
  clear hA3 hB3 hVL3 hCL3
  obtain ⟨xa41, xm41, xa42, xm42, rfl, hx41, hx42⟩ := h4.form
  clear h4
  obtain ⟨A4, hA4⟩ : ∃ A, u.level = A := ⟨_, rfl⟩
  obtain ⟨B4, hB4⟩ : ∃ B, u.sum = B := ⟨_, rfl⟩
  obtain ⟨VL4, hVL4⟩ : ∃ B, u.vars.length = B := ⟨_, rfl⟩
  obtain ⟨CL4, hCL4⟩ : ∃ B, u.cond.length = B := ⟨_, rfl⟩
  rw [hA4, hB4, hVL4, hCL4] at R4
  rw [hVL4] at hx41
  rw [hCL4] at hx42
  rw [hA4, hB4, hVL4, hCL4]
  have HLA4 := Lib.hid hA4
  have HLB4 := Lib.hid hB4
  have HVL4 := Lib.hid hVL4
  clear hA4 hB4 hVL4 hCL4
  have u0 := (((Ext.refl w).alloc (.cells #[y1] 33)).alloc (.cells #[.int .i64 A3, .slice xa31 VL3 xm31, .slice xa32 CL3 xm32, .int .i64 B3] 56)).alloc (.cells #[.int .i64 A4, .slice xa41 VL4 xm41, .slice xa42 CL4 xm42, .int .i64 B4] 56)
  have b1 := ((Box.new w 33 #[y1] rfl).alloc (.cells #[.int .i64 A3, .slice xa31 VL3 xm31, .slice xa32 CL3 xm32, .int .i64 B3] 56)).alloc (.cells #[.int .i64 A4, .slice xa41 VL4 xm41, .slice xa42 CL4 xm42, .int .i64 B4] 56)
  have b3 := (Box.new (w.alloc (.cells #[y1] 33)) 56 #[.int .i64 A3, .slice xa31 VL3 xm31, .slice xa32 CL3 xm32, .int .i64 B3] (b := w.heap.size + 1) (by simp)).alloc (.cells #[.int .i64 A4, .slice xa41 VL4 xm41, .slice xa42 CL4 xm42, .int .i64 B4] 56)
  have b4 := Box.new ((w.alloc (.cells #[y1] 33)).alloc (.cells #[.int .i64 A3, .slice xa31 VL3 xm31, .slice xa32 CL3 xm32, .int .i64 B3] 56)) 56 #[.int .i64 A4, .slice xa41 VL4 xm41, .slice xa42 CL4 xm42, .int .i64 B4] (b := w.heap.size + 1 + 1) (by simp)
  have R1 := Lib.hid (R1.out.ext u0)
  have R2 := Lib.hid (R2.out.ext u0)
  have R3 := Lib.hid (R3.out.ext u0)
  have R4 := Lib.hid (R4.out.ext u0)
  obtain ⟨wq, hwq⟩ : ∃ wq, wq = ((w.alloc (.cells #[y1] 33)).alloc (.cells #[.int .i64 A3, .slice xa31 VL3 xm31, .slice xa32 CL3 xm32, .int .i64 B3] 56)).alloc (.cells #[.int .i64 A4, .slice xa41 VL4 xm41, .slice xa42 CL4 xm42, .int .i64 B4] 56) := ⟨_, rfl⟩
  rw [← hwq] at u0 b1 b3 b4 R1 R2 R3 R4
  have HWQ := Lib.hid hwq
  have hsq : Hid (wq.heap.size = w.heap.size + 1 + 1 + 1) := Lib.hid (by rw [hwq]; simp)
  clear hwq
  have R5 := Lib.hid (R5.out.ext u0)
  have G5 := Lib.hid (IntsA.ext G5.out u0)
  have c1 := (b1.ext (Ext.refl wq)).cell 0 (by simp)
  have d30 := (b3.ext (Ext.refl wq)).cell 0 (by simp)
  have d31 := (b3.ext (Ext.refl wq)).cell 1 (by simp)
  have d32 := (b3.ext (Ext.refl wq)).cell 2 (by simp)
  have d33 := (b3.ext (Ext.refl wq)).cell 3 (by simp)
  have d40 := (b4.ext (Ext.refl wq)).cell 0 (by simp)
  have d41 := (b4.ext (Ext.refl wq)).cell 1 (by simp)
  have d42 := (b4.ext (Ext.refl wq)).cell 2 (by simp)
  have d43 := (b4.ext (Ext.refl wq)).cell 3 (by simp)
  rw [HWQ.out] at c1 d30 d31 d32 d33 d40 d41 d42 d43
  rcases ha : allB T.par s t with _ | _
  · have hOK : okB T.par s t u cells = false := by unfold okB; simp [ha]
    have hV : dvV T.par s t u cells = [] := by simp [dvV, hOK]
    rw [hOK, hV]
    clear hOK hV
    have HA := Lib.hid ha; clear ha
    go_enter Try.func32, Try.ntmps32
    go_wp2_with fail
    rw [← HWQ.out]
    rw [← HWQ.out] at c1 d30 d31 d32 d33 d40 d41 d42 d43
    refine (areTabled_b false _ _ _ T s t _ HA.out R1.out R2.out R3.out HWF.out).mono ?_
    rintro e w1 ⟨rfl, u1⟩
    go_wp2
    go_ret2
    exact ⟨_, rfl, Own.nil, u0.trans u1⟩
  have HA := Lib.hid ha
  have HAP := Lib.hid (allB_true.1 ha)
  rcases hb : tabB T.par s u with _ | _
  · have hOK : okB T.par s t u cells = false := by unfold okB; simp [hb]
    have hV : dvV T.par s t u cells = [] := by simp [dvV, hOK]
    rw [hOK, hV]
    clear hOK hV
    have HB := Lib.hid hb; clear hb ha
    go_enter Try.func32, Try.ntmps32
    go_wp2_with fail
    rw [← HWQ.out]
    rw [← HWQ.out] at c1 d30 d31 d32 d33 d40 d41 d42 d43
    refine (areTabled_b true _ _ _ T s t _ HA.out R1.out R2.out R3.out HWF.out).mono ?_
    rintro e w1 ⟨rfl, u1⟩
    clear c1 d30 d31 d32 d33 d40 d41 d42 d43
    have c1 := (b1.ext u1).cell 0 (by simp)
    have d30 := (b3.ext u1).cell 0 (by simp)
    have d31 := (b3.ext u1).cell 1 (by simp)
    have d32 := (b3.ext u1).cell 2 (by simp)
    have d33 := (b3.ext u1).cell 3 (by simp)
    have d40 := (b4.ext u1).cell 0 (by simp)
    have d41 := (b4.ext u1).cell 1 (by simp)
    have d42 := (b4.ext u1).cell 2 (by simp)
    have d43 := (b4.ext u1).cell 3 (by simp)
    go_wp2_with fail
    refine (isTable_b false _ _ _ T s u _ HB.out (R1.out.ext u1) (R2.out.ext u1) (R4.out.ext u1) HAP.out.1 HAP.out.2.1).mono ?_
    rintro e w2 ⟨rfl, u2⟩
    have x2 := u1.trans u2
    go_wp2
    go_ret2
    exact ⟨_, rfl, Own.nil, u0.trans x2⟩
  have HB := Lib.hid hb
  have HBP := Lib.hid (tabB_true.1 hb)
  rcases hc : smallB (uCnt T.par s u) cells with _ | _
  · have hOK : okB T.par s t u cells = false := by unfold okB; simp [hc]
    have hV : dvV T.par s t u cells = [] := by simp [dvV, hOK]
    rw [hOK, hV]
    clear hOK hV
    have HC := Lib.hid hc; clear hc hb ha
    go_enter Try.func32, Try.ntmps32
    go_wp2_with fail
    rw [← HWQ.out]
    rw [← HWQ.out] at c1 d30 d31 d32 d33 d40 d41 d42 d43
    refine (areTabled_b true _ _ _ T s t _ HA.out R1.out R2.out R3.out HWF.out).mono ?_
    rintro e w1 ⟨rfl, u1⟩
    clear c1 d30 d31 d32 d33 d40 d41 d42 d43
    have c1 := (b1.ext u1).cell 0 (by simp)
    have d30 := (b3.ext u1).cell 0 (by simp)
    have d31 := (b3.ext u1).cell 1 (by simp)
    have d32 := (b3.ext u1).cell 2 (by simp)
    have d33 := (b3.ext u1).cell 3 (by simp)
    have d40 := (b4.ext u1).cell 0 (by simp)
    have d41 := (b4.ext u1).cell 1 (by simp)
    have d42 := (b4.ext u1).cell 2 (by simp)
    have d43 := (b4.ext u1).cell 3 (by simp)
    go_wp2_with fail
    refine (isTable_b true _ _ _ T s u _ HB.out (R1.out.ext u1) (R2.out.ext u1) (R4.out.ext u1) HAP.out.1 HAP.out.2.1).mono ?_
    rintro e w2 ⟨rfl, u2⟩
    have x2 := u1.trans u2
    clear c1 d30 d31 d32 d33 d40 d41 d42 d43
    have c1 := (b1.ext x2).cell 0 (by simp)
    have d30 := (b3.ext x2).cell 0 (by simp)
    have d31 := (b3.ext x2).cell 1 (by simp)
    have d32 := (b3.ext x2).cell 2 (by simp)
    have d33 := (b3.ext x2).cell 3 (by simp)
    have d40 := (b4.ext x2).cell 0 (by simp)
    have d41 := (b4.ext x2).cell 1 (by simp)
    have d42 := (b4.ext x2).cell 2 (by simp)
    have d43 := (b4.ext x2).cell 3 (by simp)
    go_wp2_with fail
    refine (cellCount_c _ _ _ T s u _ (R1.out.ext x2) (R2.out.ext x2) (R4.out.ext x2) HAP.out.1 HAP.out.2.1 HBP.out.1).mono ?_
    rintro e w3 ⟨rfl, u3⟩
    have x3 := x2.trans u3
    go_wp2_with fail
    refine (areSmall_s false _ cells _ _ HC.out (R5.out.ext x3)).mono ?_
    rintro e w4 ⟨rfl, hw4⟩
    rw [hw4]
    clear hw4
    go_wp2
    go_ret2
    exact ⟨_, rfl, Own.nil, u0.trans x3⟩
  have HC := Lib.hid hc
  rcases hd : folB T.par s t u with _ | _
  · have hOK : okB T.par s t u cells = false := by unfold okB; simp [hd]
    have hV : dvV T.par s t u cells = [] := by simp [dvV, hOK]
    rw [hOK, hV]
    clear hOK hV
    have HD := Lib.hid hd; clear hd hc hb ha
    go_enter Try.func32, Try.ntmps32
    go_wp2_with fail
    rw [← HWQ.out]
    rw [← HWQ.out] at c1 d30 d31 d32 d33 d40 d41 d42 d43
    refine (areTabled_b true _ _ _ T s t _ HA.out R1.out R2.out R3.out HWF.out).mono ?_
    rintro e w1 ⟨rfl, u1⟩
    clear c1 d30 d31 d32 d33 d40 d41 d42 d43
    have c1 := (b1.ext u1).cell 0 (by simp)
    have d30 := (b3.ext u1).cell 0 (by simp)
    have d31 := (b3.ext u1).cell 1 (by simp)
    have d32 := (b3.ext u1).cell 2 (by simp)
    have d33 := (b3.ext u1).cell 3 (by simp)
    have d40 := (b4.ext u1).cell 0 (by simp)
    have d41 := (b4.ext u1).cell 1 (by simp)
    have d42 := (b4.ext u1).cell 2 (by simp)
    have d43 := (b4.ext u1).cell 3 (by simp)
    go_wp2_with fail
    refine (isTable_b true _ _ _ T s u _ HB.out (R1.out.ext u1) (R2.out.ext u1) (R4.out.ext u1) HAP.out.1 HAP.out.2.1).mono ?_
    rintro e w2 ⟨rfl, u2⟩
    have x2 := u1.trans u2
    clear c1 d30 d31 d32 d33 d40 d41 d42 d43
    have c1 := (b1.ext x2).cell 0 (by simp)
    have d30 := (b3.ext x2).cell 0 (by simp)
    have d31 := (b3.ext x2).cell 1 (by simp)
    have d32 := (b3.ext x2).cell 2 (by simp)
    have d33 := (b3.ext x2).cell 3 (by simp)
    have d40 := (b4.ext x2).cell 0 (by simp)
    have d41 := (b4.ext x2).cell 1 (by simp)
    have d42 := (b4.ext x2).cell 2 (by simp)
    have d43 := (b4.ext x2).cell 3 (by simp)
    go_wp2_with fail
    refine (cellCount_c _ _ _ T s u _ (R1.out.ext x2) (R2.out.ext x2) (R4.out.ext x2) HAP.out.1 HAP.out.2.1 HBP.out.1).mono ?_
    rintro e w3 ⟨rfl, u3⟩
    have x3 := x2.trans u3
    go_wp2_with fail
    refine (areSmall_s true _ cells _ _ HC.out (R5.out.ext x3)).mono ?_
    rintro e w4 ⟨rfl, hw4⟩
    rw [hw4]
    clear hw4
    clear c1 d30 d31 d32 d33 d40 d41 d42 d43
    have c1 := (b1.ext x3).cell 0 (by simp)
    have d30 := (b3.ext x3).cell 0 (by simp)
    have d31 := (b3.ext x3).cell 1 (by simp)
    have d32 := (b3.ext x3).cell 2 (by simp)
    have d33 := (b3.ext x3).cell 3 (by simp)
    have d40 := (b4.ext x3).cell 0 (by simp)
    have d41 := (b4.ext x3).cell 1 (by simp)
    have d42 := (b4.ext x3).cell 2 (by simp)
    have d43 := (b4.ext x3).cell 3 (by simp)
    go_wp2_with fail
    refine (followsFrom_b false _ _ _ _ T s t u _ HD.out (R1.out.ext x3) (R2.out.ext x3) (R3.out.ext x3) (R4.out.ext x3) HAP.out.1 HAP.out.2.1 HAP.out.2.2 HBP.out).mono ?_
    rintro e w5 ⟨rfl, u5⟩
    have x5 := x3.trans u5
    go_wp2
    go_ret2
    exact ⟨_, rfl, Own.nil, u0.trans x5⟩
  have HD := Lib.hid hd
  have hOK : okB T.par s t u cells = true := by unfold okB; simp [ha, hb, hc, hd]
  have HO := Lib.hid (okB_true.1 hOK)
  have hV : dvV T.par s t u cells = dvTo T.par s t u cells n := by unfold dvV; rw [if_pos hOK, HN.out]
  rw [hOK, hV]
  clear hOK hV ha hb hc hd
  obtain ⟨U, hU⟩ : ∃ U : Nat, uCnt T.par s t = U := ⟨(uCnt T.par s t).toNat, by have := (uCnt_bound HO.out.geo HO.out.sch HO.out.ht.1).2.2.2; omega⟩
  have hU6 : U ≤ 600 := by have := HO.out.ht.2.2.2.2; omega
  have hn6 : n ≤ 600 := by have := HO.out.many; rw [HN.out] at this; exact this
  have HU := Lib.hid hU; clear hU
  have hmk := run_make_row' (P := Try.prog) 22 3 (.int .i64 0) 8 Try.underlying22 info_int rfl .i64 .i64 U (by omega) (by omega)
  go_enter Try.func32, Try.ntmps32
  go_wp2_with fail
  rw [← HWQ.out]
  rw [← HWQ.out] at c1 d30 d31 d32 d33 d40 d41 d42 d43
  refine (areTabled_b true _ _ _ T s t _ HA.out R1.out R2.out R3.out HWF.out).mono ?_
  rintro e w1 ⟨rfl, u1⟩
  clear c1 d30 d31 d32 d33 d40 d41 d42 d43
  have c1 := (b1.ext u1).cell 0 (by simp)
  have d30 := (b3.ext u1).cell 0 (by simp)
  have d31 := (b3.ext u1).cell 1 (by simp)
  have d32 := (b3.ext u1).cell 2 (by simp)
  have d33 := (b3.ext u1).cell 3 (by simp)
  have d40 := (b4.ext u1).cell 0 (by simp)
  have d41 := (b4.ext u1).cell 1 (by simp)
  have d42 := (b4.ext u1).cell 2 (by simp)
  have d43 := (b4.ext u1).cell 3 (by simp)
  go_wp2_with fail
  refine (isTable_b true _ _ _ T s u _ HB.out (R1.out.ext u1) (R2.out.ext u1) (R4.out.ext u1) HAP.out.1 HAP.out.2.1).mono ?_
  rintro e w2 ⟨rfl, u2⟩
  have x2 := u1.trans u2
  clear c1 d30 d31 d32 d33 d40 d41 d42 d43
  have c1 := (b1.ext x2).cell 0 (by simp)
  have d30 := (b3.ext x2).cell 0 (by simp)
  have d31 := (b3.ext x2).cell 1 (by simp)
  have d32 := (b3.ext x2).cell 2 (by simp)
  have d33 := (b3.ext x2).cell 3 (by simp)
  have d40 := (b4.ext x2).cell 0 (by simp)
  have d41 := (b4.ext x2).cell 1 (by simp)
  have d42 := (b4.ext x2).cell 2 (by simp)
  have d43 := (b4.ext x2).cell 3 (by simp)
  go_wp2_with fail
  refine (cellCount_c _ _ _ T s u _ (R1.out.ext x2) (R2.out.ext x2) (R4.out.ext x2) HAP.out.1 HAP.out.2.1 HBP.out.1).mono ?_
  rintro e w3 ⟨rfl, u3⟩
  have x3 := x2.trans u3
  go_wp2_with fail
  refine (areSmall_s true _ cells _ _ HC.out (R5.out.ext x3)).mono ?_
  rintro e w4 ⟨rfl, hw4⟩
  rw [hw4]
  clear hw4
  clear c1 d30 d31 d32 d33 d40 d41 d42 d43
  have c1 := (b1.ext x3).cell 0 (by simp)
  have d30 := (b3.ext x3).cell 0 (by simp)
  have d31 := (b3.ext x3).cell 1 (by simp)
  have d32 := (b3.ext x3).cell 2 (by simp)
  have d33 := (b3.ext x3).cell 3 (by simp)
  have d40 := (b4.ext x3).cell 0 (by simp)
  have d41 := (b4.ext x3).cell 1 (by simp)
  have d42 := (b4.ext x3).cell 2 (by simp)
  have d43 := (b4.ext x3).cell 3 (by simp)
  go_wp2_with fail
  refine (followsFrom_b true _ _ _ _ T s t u _ HD.out (R1.out.ext x3) (R2.out.ext x3) (R3.out.ext x3) (R4.out.ext x3) HAP.out.1 HAP.out.2.1 HAP.out.2.2 HBP.out).mono ?_
  rintro e w5 ⟨rfl, u5⟩
  have x5 := x3.trans u5
  clear c1 d30 d31 d32 d33 d40 d41 d42 d43
  have c1 := (b1.ext x5).cell 0 (by simp)
  have d30 := (b3.ext x5).cell 0 (by simp)
  have d31 := (b3.ext x5).cell 1 (by simp)
  have d32 := (b3.ext x5).cell 2 (by simp)
  have d33 := (b3.ext x5).cell 3 (by simp)
  have d40 := (b4.ext x5).cell 0 (by simp)
  have d41 := (b4.ext x5).cell 1 (by simp)
  have d42 := (b4.ext x5).cell 2 (by simp)
  have d43 := (b4.ext x5).cell 3 (by simp)
  go_wp2_with fail
  refine (cellCount_c _ _ _ T s t _ (R1.out.ext x5) (R2.out.ext x5) (R3.out.ext x5) HAP.out.1 HAP.out.2.1 HAP.out.2.2.1).mono ?_
  rw [HU.out]
  rintro e w6 ⟨rfl, u6⟩
  have HX := Lib.hid (x5.trans u6)
  clear x2 x3 x5 u1 u2 u3 u5 u6
  clear c1 d30 d31 d32 d33 d40 d41 d42 d43
  go_wp2_with fail
  go_loopw [55] (fun k wr => ∃ m : Nat, m ≤ n ∧ k = .int .i64 m ∧ wr.rowIs w6.heap.size 3 U (fun j => .int .i64 (ix (dvTo T.par s t u cells m) j)) ∧ Ext w6 wr) (fun k _ => n - (intOf k).toNat)
  case atStart => exact ⟨0, Nat.zero_le _, rfl, (World.rowIs_made w6 (.int .i64 0) U 3).congr (fun j hj => by simp [dvTo, HU.out, ix, List.getD, hj]), (Ext.refl _).alloc _⟩
  case round =>
    clear hmk
    obtain ⟨m, hm, rfl, hrow, hx⟩ := hrel
    obtain ⟨wo, rfl⟩ : ∃ wo : World, wo = wr := ⟨_, rfl⟩
    have HR := Lib.hid hrow; clear hrow
    by_cases hlt : m < n
    · have hltc : m < cells.length := by rw [HN.out]; exact hlt
      have HCO := Lib.hid (HO.out.cell hltc)
      obtain ⟨b5_, o5_, rfl, k5⟩ := G5.out m hltc
      have HXO := Lib.hid (HX.out.trans hx)
      have k5 := Ext.cell HXO.out k5
      obtain ⟨K, hK⟩ : ∃ K : Nat, keyI T.par s t u m = K := ⟨(keyI T.par s t u m).toNat, by have := HCO.out.key; omega⟩
      have hKU : K < U := by have h := HCO.out.key; rw [HU.out] at h; omega
      have HSET := Lib.hid (fun j => dv_set HO.out hltc (j := j) hK)
      have hDB := dv_bound HO.out m (by omega) K (by rw [HU.out]; omega)
      have hDB2 := dv_bound HO.out (m + 1) hltc K (by rw [HU.out]; omega)
      have hcm := HO.out.small.2 m hltc
      have HKE := Lib.hid hK; clear hK
      have htb := tm_bound (t := t) (u := u) (vals := valsI s u m) _ HCO.out.v8
      have htb' : 0 ≤ timesI s t u m ∧ timesI s t u m < 8 := htb
      clear htb hltc
      obtain ⟨CM, hCM⟩ : ∃ c, ix cells m = c := ⟨_, rfl⟩
      obtain ⟨TM, hTM⟩ : ∃ c, timesI s t u m = c := ⟨_, rfl⟩
      obtain ⟨DK, hDK⟩ : ∃ c, ix (dvTo T.par s t u cells m) K = c := ⟨_, rfl⟩
      rw [hCM] at k5 hcm HSET
      rw [hTM] at htb' HSET
      rw [hDK] at hDB HSET
      clear hCM
      have HTE := Lib.hid hTM; clear hTM
      have HDE := Lib.hid hDK; clear hDK
      have hmul : -8000000 ≤ CM * TM ∧ CM * TM ≤ 8000000 := by
        have m1 : CM * TM ≤ 1000000 * TM := Int.mul_le_mul_of_nonneg_right hcm.2 htb'.1
        have m2 : -1000000 * TM ≤ CM * TM := Int.mul_le_mul_of_nonneg_right hcm.1 htb'.1
        omega
      have hw1 : IntKind.i64.wrap (CM * TM) = CM * TM := IntWalk.i64_in _ (by omega)
      have hw2 : IntKind.i64.wrap (DK + CM * TM) = DK + CM * TM := IntWalk.i64_in _ (by omega)
      have c1 := (b1.ext HXO.out).cell 0 (by simp)
      have d30 := (b3.ext HXO.out).cell 0 (by simp)
      have d31 := (b3.ext HXO.out).cell 1 (by simp)
      have d32 := (b3.ext HXO.out).cell 2 (by simp)
      have d33 := (b3.ext HXO.out).cell 3 (by simp)
      have d40 := (b4.ext HXO.out).cell 0 (by simp)
      have d41 := (b4.ext HXO.out).cell 1 (by simp)
      have d42 := (b4.ext HXO.out).cell 2 (by simp)
      have d43 := (b4.ext HXO.out).cell 3 (by simp)
      go_wp2_with fail
      refine (cellAt_c _ _ _ T s u m _ (R1.out.ext HXO.out) (R2.out.ext HXO.out) (R4.out.ext HXO.out) HO.out.geo HO.out.sch HO.out.hu (by have := HO.out.small.1; rw [HN.out] at this; omega)).mono ?_
      rintro e w7 ⟨v7, rfl, i7, u7⟩
      have HI7 := Lib.hid i7
      obtain ⟨a7, c7, rfl, _, _, g7⟩ := i7
      clear g7
      obtain ⟨n7, hn7⟩ : ∃ n, (valsI s u m).length = n := ⟨_, rfl⟩
      rw [hn7] at HI7 ⊢
      clear hn7
      have HX7 := Lib.hid (HXO.out.trans u7)
      clear c1 d30 d31 d32 d33 d40 d41 d42 d43
      have c1 := (b1.ext HX7.out).cell 0 (by simp)
      have d30 := (b3.ext HX7.out).cell 0 (by simp)
      have d31 := (b3.ext HX7.out).cell 1 (by simp)
      have d32 := (b3.ext HX7.out).cell 2 (by simp)
      have d33 := (b3.ext HX7.out).cell 3 (by simp)
      have d40 := (b4.ext HX7.out).cell 0 (by simp)
      have d41 := (b4.ext HX7.out).cell 1 (by simp)
      have d42 := (b4.ext HX7.out).cell 2 (by simp)
      have d43 := (b4.ext HX7.out).cell 3 (by simp)
      go_wp2_with fail
      refine (derived_c _ _ _ _ _ T s t u cells m _ (R1.out.ext HX7.out) (R2.out.ext HX7.out) (R3.out.ext HX7.out) (R4.out.ext HX7.out) HI7.out HO.out (by rw [HN.out]; exact hlt)).mono ?_
      rintro e w8 ⟨hor, u8⟩
      have HR8 := Lib.hid (rowIs_ext HR.out (u7.trans u8))
      have HX8 := Lib.hid (hx.trans (u7.trans u8))
      rcases hor with ⟨hin, rfl⟩ | ⟨hin, rfl⟩
      · have HS2 : Hid (∀ j, ix (dvTo T.par s t u cells (m + 1)) j = if j = K then DK + CM * TM else ix (dvTo T.par s t u cells m) j) := Lib.hid (fun j => by rw [HSET.out j, if_pos hin])
        clear hin
        rw [HKE.out, HTE.out]
        have hcell := HR8.out.cell (i := K) hKU
        have hfr := HR8.out.frozen K
        rw [HDE.out] at hcell
        have hK0 : ¬ ((K : Int) < 0) := by omega
        clear c1 d30 d31 d32 d33 d40 d41 d42 d43
        go_wp2
        go_roundw
        case rel => exact ⟨m + 1, by omega, by go_num, (HR8.out.set K _).congr (fun j hj => by rw [HS2.out]; by_cases e : j = K <;> simp [e]), HX8.out.of_upd ((Upd.refl w8).setCell (S := fun b => b = w6.heap.size) _ (fun _ => rfl)) (fun b hb => by omega)⟩
        case measure => simp [intOf]; omega
      · have HS2 : Hid (∀ j, ix (dvTo T.par s t u cells (m + 1)) j = ix (dvTo T.par s t u cells m) j) := Lib.hid (fun j => by rw [HSET.out j, if_neg (by rw [hin]; simp)])
        clear hin
        clear c1 d30 d31 d32 d33 d40 d41 d42 d43
        go_wp2
        go_roundw
        case rel => exact ⟨m + 1, by omega, by go_num, HR8.out.congr (fun j hj => by rw [HS2.out]), HX8.out⟩
        case measure => simp [intOf]; omega
    · have hml : m = n := by omega
      have HML := Lib.hid hml; clear hml
      have hs6 := HX.out.size
      have hs0 := u0.size
      go_wp2
      go_ret2
      exact ⟨_, rfl, Own.of_rowIs (lo := w.heap.size) (hi := wo.heap.size) HR.out (by rw [dv_len, HU.out]; omega) (fun j hj => by rw [← HML.out]) (by omega) HR.out.lt (by omega), u0.trans (HX.out.trans hx)⟩
end Go.Proofs.Ytolmmhdeebgglaa
