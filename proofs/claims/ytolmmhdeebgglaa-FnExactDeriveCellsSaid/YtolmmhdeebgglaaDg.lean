/- The cells of one table out of those of another: the spec's DeriveCells. -/
import Derived.Test.YtolmmhdeebgglaaDg0
import Derived.Test.YtolmmhdeebgglaaTg
import Derived.Test.YtolmmhdeebgglaaQtail
namespace Go.Proofs.Ytolmmhdeebgglaa
open Go.RowKit

set_option maxRecDepth 100000 in
set_option maxHeartbeats 6400000 in
theorem specDerive_c (v1 v2 v3 v4 v5 : Value) (T : Ge) (s : List Vr) (t u : Ta) (cells : List Int) (w : World) (h1 : GeR w v1 T) (h2 : Vrs w v2 s) (h3 : TaR w v3 t) (h4 : TaR w v4 u) (h5 : Ints w v5 cells) (hw : WfV s) :
    Calls Try.prog 29 #[v1, v2, v3, v4, v5] w (RetInts (fun v' => .tuple #[v', .bool (okB T.par s t u cells)]) w (dvV T.par s t u cells)) := by
  have HWF := Lib.hid hw; clear hw
  have R5 := Lib.hid h5
  obtain ⟨a5, c5, rfl, p5, q5, g5⟩ := h5
  obtain ⟨n, hn⟩ : ∃ n, cells.length = n := ⟨_, rfl⟩
  rw [hn] at R5 p5 ⊢
  have G5 := Lib.hid g5; clear g5
  have HN := Lib.hid hn; clear hn
  have R1 := Lib.hid h1
  have R2 := Lib.hid h2; clear h2
  have R3 := Lib.hid h3
  have R4 := Lib.hid h4
  obtain ⟨y1, rfl, i1⟩ := h1
  clear i1
  obtain ⟨xa31, xm31, xa32, xm32, rfl, hx31, hx32⟩ := h3.form
  clear h3
  obtain ⟨A3, hA3⟩ : ∃ A, t.level = A := ⟨_, rfl⟩
  obtain ⟨B3, hB3⟩ : ∃ B, t.sum = B := ⟨_, rfl⟩
  obtain ⟨VL3, hVL3⟩ : ∃ B, t.vars.length = B := ⟨_, rfl⟩
  obtain ⟨CL3, hCL3⟩ : ∃ B, t.cond.length = B := ⟨_, rfl⟩
  rw [hA3, hB3, hVL3, hCL3] at R3
  rw [hVL3] at hx31
  rw [hCL3] at hx32
  rw [hA3, hB3, hVL3, hCL3]
  have HLA3 := Lib.hid hA3
  have HLB3 := Lib.hid hB3
  have HVL3 := Lib.hid hVL3
  clear hA3 hB3 hVL3 hCL3
  obtain ⟨xa41, xm41, xa42, xm42, rfl, hx41, hx42⟩ := h4.form
  clear h4
  obtain ⟨A4, hA4⟩ : ∃ A, u.level = A := ⟨_, rfl⟩
  obtain ⟨B4, hB4⟩ : ∃ B, u.sum = B := ⟨_, rfl⟩
  obtain ⟨VL4, hVL4⟩ : ∃ B, u.vars.length = B := ⟨_, rfl⟩
  obtain ⟨CL4, hCL4⟩ : ∃ B, u.cond.length = B := ⟨_, rfl⟩
  rw [hA4, hB4, hVL4, hCL4] at R4
  rw [hVL4] at hx41
  rw [hCL4] at hx42
  rw [hA4, hB4, hVL4, hCL4]
  have HLA4 := Lib.hid hA4
  have HLB4 := Lib.hid hB4
  have HVL4 := Lib.hid hVL4
  clear hA4 hB4 hVL4 hCL4
  have u0 := (((Ext.refl w).alloc (.cells #[y1] 33)).alloc (.cells #[.int .i64 A3, .slice xa31 VL3 xm31, .slice xa32 CL3 xm32, .int .i64 B3] 56)).alloc (.cells #[.int .i64 A4, .slice xa41 VL4 xm41, .slice xa42 CL4 xm42, .int .i64 B4] 56)
  have b1 := ((Box.new w 33 #[y1] rfl).alloc (.cells #[.int .i64 A3, .slice xa31 VL3 xm31, .slice xa32 CL3 xm32, .int .i64 B3] 56)).alloc (.cells #[.int .i64 A4, .slice xa41 VL4 xm41, .slice xa42 CL4 xm42, .int .i64 B4] 56)
  have b3 := (Box.new (w.alloc (.cells #[y1] 33)) 56 #[.int .i64 A3, .slice xa31 VL3 xm31, .slice xa32 CL3 xm32, .int .i64 B3] (b := w.heap.size + 1) (by simp)).alloc (.cells #[.int .i64 A4, .slice xa41 VL4 xm41, .slice xa42 CL4 xm42, .int .i64 B4] 56)
  have b4 := Box.new ((w.alloc (.cells #[y1] 33)).alloc (.cells #[.int .i64 A3, .slice xa31 VL3 xm31, .slice xa32 CL3 xm32, .int .i64 B3] 56)) 56 #[.int .i64 A4, .slice xa41 VL4 xm41, .slice xa42 CL4 xm42, .int .i64 B4] (b := w.heap.size + 1 + 1) (by simp)
  have R1 := Lib.hid (R1.out.ext u0)
  have R2 := Lib.hid (R2.out.ext u0)
  have R3 := Lib.hid (R3.out.ext u0)
  have R4 := Lib.hid (R4.out.ext u0)
  obtain ⟨wq, hwq⟩ : ∃ wq, wq = ((w.alloc (.cells #[y1] 33)).alloc (.cells #[.int .i64 A3, .slice xa31 VL3 xm31, .slice xa32 CL3 xm32, .int .i64 B3] 56)).alloc (.cells #[.int .i64 A4, .slice xa41 VL4 xm41, .slice xa42 CL4 xm42, .int .i64 B4] 56) := ⟨_, rfl⟩
  rw [← hwq] at u0 b1 b3 b4 R1 R2 R3 R4
  have HWQ := Lib.hid hwq
  have hsq : Hid (wq.heap.size = w.heap.size + 1 + 1 + 1) := Lib.hid (by rw [hwq]; simp)
  clear hwq
  have R5 := Lib.hid (R5.out.ext u0)
  have G5 := Lib.hid (IntsA.ext G5.out u0)
  have c1 := (b1.ext (Ext.refl wq)).cell 0 (by simp)
  have d30 := (b3.ext (Ext.refl wq)).cell 0 (by simp)
  have d31 := (b3.ext (Ext.refl wq)).cell 1 (by simp)
  have d32 := (b3.ext (Ext.refl wq)).cell 2 (by simp)
  have d33 := (b3.ext (Ext.refl wq)).cell 3 (by simp)
  have d40 := (b4.ext (Ext.refl wq)).cell 0 (by simp)
  have d41 := (b4.ext (Ext.refl wq)).cell 1 (by simp)
  have d42 := (b4.ext (Ext.refl wq)).cell 2 (by simp)
  have d43 := (b4.ext (Ext.refl wq)).cell 3 (by simp)
  rw [HWQ.out] at c1 d30 d31 d32 d33 d40 d41 d42 d43
  obtain ⟨a2, c2, hv2, hc2, hc3, _⟩ := R2.out
  obtain ⟨SL, hSL⟩ : ∃ S, s.length = S := ⟨_, rfl⟩
  rw [hSL] at hv2 hc2
  subst hv2
  have HSL := Lib.hid hSL; clear hSL
  rcases ha : allB T.par s t with _ | _
  · have hOK : okB T.par s t u cells = false := by unfold okB; simp [ha]
    have hV : dvV T.par s t u cells = [] := by simp [dvV, hOK]
    rw [hOK, hV]
    clear hOK hV
    have HA := Lib.hid ha; clear ha
    go_enter Try.func29, Try.ntmps29
    go_wp2_with fail
    rw [← HWQ.out]
    rw [← HWQ.out] at c1 d30 d31 d32 d33 d40 d41 d42 d43
    refine (uGood_b false _ _ _ T s t _ HA.out R1.out R2.out R3.out HWF.out).mono ?_
    rintro e w1 ⟨rfl, u1⟩
    go_wp2
    go_ret2
    exact ⟨_, rfl, Own.nil, u0.trans u1⟩
  have HA := Lib.hid ha
  have HAP := Lib.hid (allB_true.1 ha)
  rcases hc : allB T.par s u && smallB (uCnt T.par s u) cells with _ | _
  · have hOK : okB T.par s t u cells = false := by
      unfold okB
      cases hb : tabB T.par s u
      · simp
      · have h2 : allB T.par s u = true := allB_true.2 ⟨HAP.out.1, HAP.out.2.1, tabB_true.1 hb⟩
        rw [h2, Bool.true_and] at hc
        simp [hc]
    have hV : dvV T.par s t u cells = [] := by simp [dvV, hOK]
    rw [hOK, hV]
    clear hOK hV
    have HC := Lib.hid hc; clear hc ha
    go_enter Try.func29, Try.ntmps29
    go_wp2_with fail
    rw [← HWQ.out]
    rw [← HWQ.out] at c1 d30 d31 d32 d33 d40 d41 d42 d43
    refine (uGood_b true _ _ _ T s t _ HA.out R1.out R2.out R3.out HWF.out).mono ?_
    rintro e w1 ⟨rfl, u1⟩
    clear c1 d30 d31 d32 d33 d40 d41 d42 d43
    have c1 := (b1.ext u1).cell 0 (by simp)
    have d30 := (b3.ext u1).cell 0 (by simp)
    have d31 := (b3.ext u1).cell 1 (by simp)
    have d32 := (b3.ext u1).cell 2 (by simp)
    have d33 := (b3.ext u1).cell 3 (by simp)
    have d40 := (b4.ext u1).cell 0 (by simp)
    have d41 := (b4.ext u1).cell 1 (by simp)
    have d42 := (b4.ext u1).cell 2 (by simp)
    have d43 := (b4.ext u1).cell 3 (by simp)
    go_wp2_with fail
    refine (nCells_b false _ _ _ _ T s u cells _ HC.out (R1.out.ext u1) (R2.out.ext u1) (R4.out.ext u1) (R5.out.ext u1) HWF.out).mono ?_
    rintro e w3 ⟨rfl, u3⟩
    have x3 := u1.trans u3
    go_wp2
    go_ret2
    exact ⟨_, rfl, Own.nil, u0.trans x3⟩
  have HC := Lib.hid hc
  have hbc : allB T.par s u = true ∧ smallB (uCnt T.par s u) cells = true := by simpa using hc
  have HBP := Lib.hid (allB_true.1 hbc.1).2.2
  rcases hd : folB T.par s t u with _ | _
  · have hOK : okB T.par s t u cells = false := by unfold okB; simp [hd]
    have hV : dvV T.par s t u cells = [] := by simp [dvV, hOK]
    rw [hOK, hV]
    clear hOK hV
    have HD := Lib.hid hd; clear hd hc hbc ha
    go_enter Try.func29, Try.ntmps29
    go_wp2_with fail
    rw [← HWQ.out]
    rw [← HWQ.out] at c1 d30 d31 d32 d33 d40 d41 d42 d43
    refine (uGood_b true _ _ _ T s t _ HA.out R1.out R2.out R3.out HWF.out).mono ?_
    rintro e w1 ⟨rfl, u1⟩
    clear c1 d30 d31 d32 d33 d40 d41 d42 d43
    have c1 := (b1.ext u1).cell 0 (by simp)
    have d30 := (b3.ext u1).cell 0 (by simp)
    have d31 := (b3.ext u1).cell 1 (by simp)
    have d32 := (b3.ext u1).cell 2 (by simp)
    have d33 := (b3.ext u1).cell 3 (by simp)
    have d40 := (b4.ext u1).cell 0 (by simp)
    have d41 := (b4.ext u1).cell 1 (by simp)
    have d42 := (b4.ext u1).cell 2 (by simp)
    have d43 := (b4.ext u1).cell 3 (by simp)
    go_wp2_with fail
    refine (nCells_b true _ _ _ _ T s u cells _ HC.out (R1.out.ext u1) (R2.out.ext u1) (R4.out.ext u1) (R5.out.ext u1) HWF.out).mono ?_
    rintro e w3 ⟨rfl, u3⟩
    have x3 := u1.trans u3
    clear c1 d30 d31 d32 d33 d40 d41 d42 d43
    have c1 := (b1.ext x3).cell 0 (by simp)
    have d30 := (b3.ext x3).cell 0 (by simp)
    have d31 := (b3.ext x3).cell 1 (by simp)
    have d32 := (b3.ext x3).cell 2 (by simp)
    have d33 := (b3.ext x3).cell 3 (by simp)
    have d40 := (b4.ext x3).cell 0 (by simp)
    have d41 := (b4.ext x3).cell 1 (by simp)
    have d42 := (b4.ext x3).cell 2 (by simp)
    have d43 := (b4.ext x3).cell 3 (by simp)
    go_wp2_with fail
    refine (lFollows_b false _ _ _ _ T s t u _ HD.out (R1.out.ext x3) (R2.out.ext x3) (R3.out.ext x3) (R4.out.ext x3) HAP.out.1 HAP.out.2.1 HAP.out.2.2 HBP.out).mono ?_
    rintro e w5 ⟨rfl, u5⟩
    have x5 := x3.trans u5
    go_wp2
    go_ret2
    exact ⟨_, rfl, Own.nil, u0.trans x5⟩
  have HD := Lib.hid hd
  have hOK : okB T.par s t u cells = true := by unfold okB; rw [ha, hbc.2, hd, tabB_true.2 HBP.out]; rfl
  have HO := Lib.hid (okB_true.1 hOK)
  have hV : dvV T.par s t u cells = dvTo T.par s t u cells n := by unfold dvV; rw [if_pos hOK, HN.out]
  rw [hOK, hV]
  clear hOK hV ha hbc hc hd
  have hsl := HO.out.sch.1
  rw [HSL.out] at hsl
  have hv3 : VL3 ≤ 6 := by have h := HO.out.ht.1.length (by omega); rw [HVL3.out, HSL.out] at h; omega
  have hv4 : VL4 ≤ 6 := by have h := HO.out.hu.1.length (by omega); rw [HVL4.out, HSL.out] at h; omega
  obtain ⟨U, hU⟩ : ∃ U : Nat, uCnt T.par s t = U := ⟨(uCnt T.par s t).toNat, by have := (uCnt_bound HO.out.geo HO.out.sch HO.out.ht.1).2.2.2; omega⟩
  have hU6 : U ≤ 600 := by have := HO.out.ht.2.2.2.2; omega
  have hn6 : n ≤ 600 := by have := HO.out.many; rw [HN.out] at this; exact this
  have HU := Lib.hid hU; clear hU
  have hmk := run_make_row' (P := Try.prog) 22 3 (.int .i64 0) 8 Try.underlying22 info_int rfl .i64 .i64 U (by omega) (by omega)
  have G4 : Hid (IntsA wq xa41 u.vars) := Lib.hid (by
    obtain ⟨a, c, e, _, _, g⟩ := R4.out.f1
    simp only [Value.slice.injEq] at e
    obtain ⟨rfl, _, _⟩ := e
    exact g)
  go_enter Try.func29, Try.ntmps29
  go_wp2_with fail
  rw [← HWQ.out]
  rw [← HWQ.out] at c1 d30 d31 d32 d33 d40 d41 d42 d43
  refine (uGood_b true _ _ _ T s t _ HA.out R1.out R2.out R3.out HWF.out).mono ?_
  rintro e w1 ⟨rfl, u1⟩
  clear c1 d30 d31 d32 d33 d40 d41 d42 d43
  have c1 := (b1.ext u1).cell 0 (by simp)
  have d30 := (b3.ext u1).cell 0 (by simp)
  have d31 := (b3.ext u1).cell 1 (by simp)
  have d32 := (b3.ext u1).cell 2 (by simp)
  have d33 := (b3.ext u1).cell 3 (by simp)
  have d40 := (b4.ext u1).cell 0 (by simp)
  have d41 := (b4.ext u1).cell 1 (by simp)
  have d42 := (b4.ext u1).cell 2 (by simp)
  have d43 := (b4.ext u1).cell 3 (by simp)
  go_wp2_with fail
  refine (nCells_b true _ _ _ _ T s u cells _ HC.out (R1.out.ext u1) (R2.out.ext u1) (R4.out.ext u1) (R5.out.ext u1) HWF.out).mono ?_
  rintro e w3 ⟨rfl, u3⟩
  have x3 := u1.trans u3
  clear c1 d30 d31 d32 d33 d40 d41 d42 d43
  have c1 := (b1.ext x3).cell 0 (by simp)
  have d30 := (b3.ext x3).cell 0 (by simp)
  have d31 := (b3.ext x3).cell 1 (by simp)
  have d32 := (b3.ext x3).cell 2 (by simp)
  have d33 := (b3.ext x3).cell 3 (by simp)
  have d40 := (b4.ext x3).cell 0 (by simp)
  have d41 := (b4.ext x3).cell 1 (by simp)
  have d42 := (b4.ext x3).cell 2 (by simp)
  have d43 := (b4.ext x3).cell 3 (by simp)
  go_wp2_with fail
  refine (lFollows_b true _ _ _ _ T s t u _ HD.out (R1.out.ext x3) (R2.out.ext x3) (R3.out.ext x3) (R4.out.ext x3) HAP.out.1 HAP.out.2.1 HAP.out.2.2 HBP.out).mono ?_
  rintro e w5 ⟨rfl, u5⟩
  have x5 := x3.trans u5
  clear c1 d30 d31 d32 d33 d40 d41 d42 d43
  have c1 := (b1.ext x5).cell 0 (by simp)
  have d30 := (b3.ext x5).cell 0 (by simp)
  have d31 := (b3.ext x5).cell 1 (by simp)
  have d32 := (b3.ext x5).cell 2 (by simp)
  have d33 := (b3.ext x5).cell 3 (by simp)
  have d40 := (b4.ext x5).cell 0 (by simp)
  have d41 := (b4.ext x5).cell 1 (by simp)
  have d42 := (b4.ext x5).cell 2 (by simp)
  have d43 := (b4.ext x5).cell 3 (by simp)
  go_wp2_with fail
  refine (uCount_c _ _ _ T s t _ (R1.out.ext x5) (R2.out.ext x5) (R3.out.ext x5) HAP.out.1 HAP.out.2.1 HAP.out.2.2.1).mono ?_
  rw [HU.out]
  rintro e w6 ⟨rfl, u6⟩
  have HX := Lib.hid (x5.trans u6)
  clear x3 x5 u1 u3 u5 u6
  have uo := (Ext.refl w6).alloc (.cells (madeCells #[.int .i64 0] U) 3)
  have HRO := Lib.hid (World.rowIs_made w6 (.int .i64 0) U 3)
  have hx6 := HX.out.trans uo
  clear c1 d30 d31 d32 d33 d40 d41 d42 d43
  have c1 := (b1.ext hx6).cell 0 (by simp)
  have d30 := (b3.ext hx6).cell 0 (by simp)
  have d31 := (b3.ext hx6).cell 1 (by simp)
  have d32 := (b3.ext hx6).cell 2 (by simp)
  have d33 := (b3.ext hx6).cell 3 (by simp)
  have d40 := (b4.ext hx6).cell 0 (by simp)
  have d41 := (b4.ext hx6).cell 1 (by simp)
  have d42 := (b4.ext hx6).cell 2 (by simp)
  have d43 := (b4.ext hx6).cell 3 (by simp)
  go_wp2_with fail
  clear hmk
  refine (gLevel_o _ T A3 _ (R1.out.ext hx6) HO.out.geo).mono ?_
  rintro e w7 ⟨z7, lo7, rfl, hlo7, i7, u7⟩
  have I7 := Lib.hid i7
  obtain ⟨a7, c7, rfl⟩ := i7.form
  obtain ⟨n7, hn7⟩ : ∃ n, (levL T.par A3).length = n := ⟨_, rfl⟩
  rw [hn7] at I7 ⊢
  clear hn7 i7
  have hx7 := hx6.trans u7
  clear c1 d30 d31 d32 d33 d40 d41 d42 d43
  have c1 := (b1.ext hx7).cell 0 (by simp)
  have d30 := (b3.ext hx7).cell 0 (by simp)
  have d31 := (b3.ext hx7).cell 1 (by simp)
  have d32 := (b3.ext hx7).cell 2 (by simp)
  have d33 := (b3.ext hx7).cell 3 (by simp)
  have d40 := (b4.ext hx7).cell 0 (by simp)
  have d41 := (b4.ext hx7).cell 1 (by simp)
  have d42 := (b4.ext hx7).cell 2 (by simp)
  have d43 := (b4.ext hx7).cell 3 (by simp)
  go_wp2_with fail
  refine (sPart_o _ _ s t.vars _ (R2.out.ext hx7) ((R3.out.ext hx7).f1) HO.out.sch HO.out.ht.1).mono ?_
  rintro e w8 ⟨z8, rfl, i8, u8⟩
  have I8 := Lib.hid i8
  obtain ⟨a8, c8, rfl⟩ := i8.form
  obtain ⟨n8, hn8⟩ : ∃ n, (partL s t.vars).length = n := ⟨_, rfl⟩
  rw [hn8] at I8 ⊢
  clear hn8 i8
  have HRO := Lib.hid (rowIs_ext HRO.out (u7.trans u8))
  have HX6 := Lib.hid (uo.trans (u7.trans u8))
  have I7 := Lib.hid (I7.out.ext u8)
  have hg7 : w6.heap.size < lo7 := by simp at hlo7; omega
  have hg8 : w6.heap.size < w7.heap.size := by have := u7.size; simp at this; omega
  clear uo hx6 hx7 u7 u8
  clear c1 d30 d31 d32 d33 d40 d41 d42 d43
  go_wp2_with fail
  -- BEGIN cut loop
  go_loopw [60] (fun k wr => ∃ m : Nat, m ≤ n ∧ k = .int .i64 m ∧ wr.rowIs w6.heap.size 3 U (fun j => .int .i64 (ix (dvTo T.par s t u cells m) j)) ∧ Upd (fun b => b = w6.heap.size) w8 wr) (fun k _ => n - (intOf k).toNat)
  case atStart => exact ⟨0, Nat.zero_le _, rfl, HRO.out.congr (fun j hj => by simp [dvTo, HU.out, ix, List.getD, hj]), Upd.refl _⟩
  case round =>
    clear HRO
    obtain ⟨m, hm, rfl, hrow, hu⟩ := hrel
    obtain ⟨wo, rfl⟩ : ∃ wo : World, wo = wr := ⟨_, rfl⟩
    have HR := Lib.hid hrow; clear hrow
    have HUO := Lib.hid hu
    have HXO := Lib.hid (HX.out.trans (HX6.out.of_upd hu (fun b hb => by omega)))
    clear hu
    by_cases hlt : m < n
    · have hltc : m < cells.length := by rw [HN.out]; exact hlt
      have HCO := Lib.hid (HO.out.cell hltc)
      obtain ⟨b5_, o5_, rfl, k5⟩ := G5.out m hltc
      have k5 := Ext.cell HXO.out k5
      obtain ⟨CM, hCM⟩ : ∃ c, ix cells m = c := ⟨_, rfl⟩
      rw [hCM] at k5
      have HCM := Lib.hid hCM; clear hCM hltc
      obtain ⟨av, ea, hal, had, b, eb, hbl, hbd, hbm⟩ := HCO.out.area
      have HUP : Hid (upI T.par s t u m = b) := Lib.hid (by unfold upI; rw [ea]; exact eb)
      have HEA : Hid (areaI T.par s u m = av) := Lib.hid ea
      have HEB : Hid (ancL T.par av A3 = b) := Lib.hid (by rw [← HLA3.out]; exact eb)
      clear ea had hbl hbd hbm eb
      have HV8 : Hid (∀ k, k < VL4 → 0 ≤ ix (valsI s u m) k ∧ ix (valsI s u m) k < 8) := Lib.hid (by rw [← HVL4.out]; exact HCO.out.v8)
      have HVLS : Hid ((valsI s u m).length = VL4) := Lib.hid (by rw [← HVL4.out]; exact HCO.out.vl)
      have c1 := (b1.ext HXO.out).cell 0 (by simp)
      have d30 := (b3.ext HXO.out).cell 0 (by simp)
      have d31 := (b3.ext HXO.out).cell 1 (by simp)
      have d32 := (b3.ext HXO.out).cell 2 (by simp)
      have d33 := (b3.ext HXO.out).cell 3 (by simp)
      have d40 := (b4.ext HXO.out).cell 0 (by simp)
      have d41 := (b4.ext HXO.out).cell 1 (by simp)
      have d42 := (b4.ext HXO.out).cell 2 (by simp)
      have d43 := (b4.ext HXO.out).cell 3 (by simp)
      go_wp2_with fail
      refine (CellAt_c _ _ _ T s u m _ (R1.out.ext HXO.out) (R2.out.ext HXO.out) (R4.out.ext HXO.out) HO.out.geo HO.out.sch HO.out.hu (by have := HO.out.small.1; rw [HN.out] at this; omega) HWF.out).mono ?_
      rw [HEA.out]
      rintro e w9 ⟨v9, rfl, i9, u9⟩
      obtain ⟨a9, c9, rfl, _, _, g9⟩ := i9
      rw [HVLS.out]
      have G9 := Lib.hid g9; clear g9
      have HX9 := Lib.hid (HXO.out.trans u9)
      have HU9 := Lib.hid (HUO.out.trans u9.upd)
      have HR9 := Lib.hid (rowIs_ext HR.out u9)
      have h89 := HU9.out.size
      have hmk := run_make_row' (P := Try.prog) 22 3 (.int .i64 0) 8 Try.underlying22 info_int rfl .i64 .i64 SL (by omega) (by omega)
      have hx9a := HX9.out.trans ((Ext.refl w9).alloc (.cells (madeCells #[.int .i64 0] SL) 3))
      clear c1 d30 d31 d32 d33 d40 d41 d42 d43
      have c1 := (b1.ext hx9a).cell 0 (by simp)
      have d30 := (b3.ext hx9a).cell 0 (by simp)
      have d31 := (b3.ext hx9a).cell 1 (by simp)
      have d32 := (b3.ext hx9a).cell 2 (by simp)
      have d33 := (b3.ext hx9a).cell 3 (by simp)
      have d40 := (b4.ext hx9a).cell 0 (by simp)
      have d41 := (b4.ext hx9a).cell 1 (by simp)
      have d42 := (b4.ext hx9a).cell 2 (by simp)
      have d43 := (b4.ext hx9a).cell 3 (by simp)
      go_wp2_with fail
      clear c1 d30 d31 d32 d33 d40 d41 d42 d43
      clear k5 hx9a u9 hmk HR HUO HXO
      go_loopw [21, 80] (fun x i wr => ∃ k : Nat, k ≤ VL4 ∧ i = .int .i64 k ∧ x = .bool (inTo s t u (valsI s u m) k) ∧ wr.rowIs w9.heap.size 3 SL (fun j => .int .i64 (ix (allL SL u.vars (valsI s u m) k) j)) ∧ Ext w9 wr) (fun _ i _ => VL4 - (intOf i).toNat)
      case atStart => exact ⟨0, Nat.zero_le _, rfl, rfl, (World.rowIs_made w9 (.int .i64 0) SL 3).congr (fun j hj => by rw [ix_allL hj]; rfl), (Ext.refl _).alloc _⟩
      case round =>
        obtain ⟨k, hk, rfl, rfl, hrow, hxi⟩ := hrel
        obtain ⟨wi, rfl⟩ : ∃ wi : World, wi = wr := ⟨_, rfl⟩
        have HRA := Lib.hid hrow; clear hrow
        by_cases hlt2 : k < VL4
        · -- BEGIN cut inner
          obtain ⟨vi, evi, hvi⟩ : ∃ v : Nat, ix u.vars k = v ∧ v < SL := by
            have h := (HO.out.hu.1 k (by rw [HVL4.out]; exact hlt2)).1
            rw [HSL.out] at h
            exact ⟨(ix u.vars k).toNat, by omega, by omega⟩
          obtain ⟨b4_, o4_, rfl, k4⟩ := G4.out k (by rw [HVL4.out]; exact hlt2)
          obtain ⟨b9_, o9_, rfl, k9⟩ := G9.out k (by rw [HVLS.out]; exact hlt2)
          have hx8 := HV8.out k hlt2
          have HIT : Hid (inTo s t u (valsI s u m) (k + 1) = (inTo s t u (valsI s u m) k && decide (bitV (setV s t (ix u.vars k).toNat) (ix (valsI s u m) k) = 1))) := Lib.hid rfl
          have HAS : Hid (∀ j, j < SL → ix (allL SL u.vars (valsI s u m) (k + 1)) j = if j = vi then ix (valsI s u m) k else ix (allL SL u.vars (valsI s u m) k) j) := Lib.hid (fun j hj => by
            rw [ix_allL hj, ix_allL hj]
            simp only [lookL]
            rw [evi]
            by_cases e : j = vi
            · subst e; rw [if_pos rfl, if_pos rfl]
            · rw [if_neg e, if_neg (by omega)])
          rw [evi] at k4 HIT
          have evt : ((vi : Int)).toNat = vi := by omega
          rw [evt] at HIT
          clear evt evi
          obtain ⟨X, hX⟩ : ∃ X, ix (valsI s u m) k = X := ⟨_, rfl⟩
          rw [hX] at k9 hx8 HIT HAS
          clear hX
          have hvi' : vi < s.length := by rw [HSL.out]; exact hvi
          have hS := setV_range HO.out.sch HO.out.ht.2.1 hvi'
          have hsr := shr_range (v := X) hS
          have hb1 := bits_and1 hsr
          have hb01 := bitV_01 (setV s t vi) X
          have hbv : bitV (setV s t vi) X = setV s t vi / 2 ^ X.toNat % 2 := rfl
          rw [← hbv] at hb1
          clear hbv
          obtain ⟨S, hSe⟩ : ∃ S, setV s t vi = S := ⟨_, rfl⟩
          rw [hSe] at hS hb01 hb1 HIT hsr
          have HS := Lib.hid hSe; clear hSe
          obtain ⟨SH, hSH⟩ : ∃ SH, S / 2 ^ X.toNat = SH := ⟨_, rfl⟩
          rw [hSH] at hb1 hsr
          obtain ⟨BT, hBT⟩ : ∃ b, bitV S X = b := ⟨_, rfl⟩
          rw [hBT] at hb01 hb1 HIT
          clear hBT
          have hmin : min X.toNat 64 = X.toNat := by omega
          have hX0 : (0 : Int) ≤ X := hx8.1
          have hXu : IntKind.u64.wrap X = X := by simp [IntKind.wrap, IntKind.bits, IntKind.signed]; omega
          have kk4 := Ext.cell (HX9.out.trans hxi) k4
          have kk9 := Ext.cell hxi k9
          have hb9 : ¬ b9_ = w9.heap.size := by have h := World.block_lt_of_cell? _ _ k9; simp only at h; omega
          clear k4 k9
          have ka := HRA.out.cell (i := vi) hvi
          have kf := HRA.out.frozen vi
          have HRB := Lib.hid (World.rowIs.congr (HRA.out.set vi (.int .i64 X)) (g := fun j => .int .i64 (ix (allL SL u.vars (valsI s u m) (k + 1)) j)) (fun j hj => by rw [HAS.out j hj]; by_cases e : j = vi <;> simp [e]))
          have HXB : Hid (Ext w9 (wi.setCell ⟨w9.heap.size, vi, none⟩ (.int .i64 X))) := Lib.hid (hxi.of_upd ((Upd.refl wi).setCell (S := fun b => b = w9.heap.size) _ (fun _ => rfl)) (fun b hb => by omega))
          go_upto_region 16 with fail
          obtain ⟨wb, hwb⟩ : ∃ wb, wb = wi.setCell ⟨w9.heap.size, vi, none⟩ (.int .i64 X) := ⟨_, rfl⟩
          have kk9 : wb.cell? ⟨b9_, o9_ + k, none⟩ = some (.int .i64 X) := by
            rw [hwb, cell_far (by simpa using hb9)]; exact kk9
          rw [← hwb] at HRB HXB ⊢
          clear hwb ka kf kk4 HRA hxi
          have hxb := HX9.out.trans HXB.out
          have F9 : ∀ z : ExtOf wb, z.w.cell? ⟨b9_, o9_ + k, none⟩ = some (.int .i64 X) := fun z => Ext.cell z.ext kk9
          have F0 : ∀ z : ExtOf wb, z.w.cell? ⟨w.heap.size + 1, 0, none⟩ = some (.int .i64 A3) := fun z => (b3.ext (hxb.trans z.ext)).cell 0 (by simp)
          have F1 : ∀ z : ExtOf wb, z.w.cell? ⟨w.heap.size + 1, 1, none⟩ = some (.slice xa31 VL3 xm31) := fun z => (b3.ext (hxb.trans z.ext)).cell 1 (by simp)
          have F2 : ∀ z : ExtOf wb, z.w.cell? ⟨w.heap.size + 1, 2, none⟩ = some (.slice xa32 CL3 xm32) := fun z => (b3.ext (hxb.trans z.ext)).cell 2 (by simp)
          have F3 : ∀ z : ExtOf wb, z.w.cell? ⟨w.heap.size + 1, 3, none⟩ = some (.int .i64 B3) := fun z => (b3.ext (hxb.trans z.ext)).cell 3 (by simp)
          have HC1 : Hid (∀ z : ExtOf wb, Calls Try.prog 55 #[.slice a2 SL c2, .agg #[.int .i64 A3, .slice xa31 VL3 xm31, .slice xa32 CL3 xm32, .int .i64 B3], .int .i64 vi] z.w fun e w' => e = .returned (.int .i64 S) ∧ Ext z.w w') := Lib.hid (fun z => by
            rw [← HS.out]
            exact lSet_c _ _ s t vi _ (R2.out.ext (hxb.trans z.ext)) (R3.out.ext (hxb.trans z.ext)) HO.out.sch HO.out.ht.2.1.1 hvi')
          obtain ⟨IB, hIB⟩ : ∃ x, inTo s t u (valsI s u m) k = x := ⟨_, rfl⟩
          rw [hIB] at HIT ⊢
          clear kk9 hIB
          have HXB2 := Lib.hid hxb; clear hxb
          cases IB
          · have HI2 : Hid (inTo s t u (valsI s u m) (k + 1) = false) := Lib.hid (by rw [HIT.out]; rfl)
            clear HIT
            refine wp_region_quiet_ext (by kernel_rfl) (by kernel_rfl) ?_
            repeat (go_big_quiet_step (fail))
            refine wpQuiet_nil ?_
            intro ws hw'
            obtain ⟨⟨wz, us⟩, hw''⟩ := hw'
            subst hw''
            clear F9 F0 F1 F2 F3
            go_wp2
            go_roundw
            case rel => exact ⟨k + 1, by omega, by go_num, by rw [HI2.out], rowIs_ext HRB.out us, HXB.out.trans us⟩
            case measure => simp [intOf]; omega
          · have HI2 : Hid (inTo s t u (valsI s u m) (k + 1) = decide (BT = 1)) := Lib.hid (by rw [HIT.out, Bool.true_and])
            clear HIT
            have hBQ : Hid ((BT == 1) = decide (BT = 1)) := Lib.hid (by rcases hb01 with e | e <;> rw [e] <;> rfl)
            clear hb01
            refine wp_region_quiet_ext (by kernel_rfl) (by kernel_rfl) ?_
            repeat (go_big_quiet_step ((go_at_call 55; with_reducible exact calls_ext (HC1.out _))))
            refine wpQuiet_nil ?_
            intro ws hw'
            obtain ⟨⟨wz, us⟩, hw''⟩ := hw'
            subst hw''
            clear F9 F0 F1 F2 F3
            go_wp2
            go_roundw
            case rel => exact ⟨k + 1, by omega, by go_num, by rw [HI2.out, ← hBQ.out], rowIs_ext HRB.out us, HXB.out.trans us⟩
            case measure => simp [intOf]; omega
          -- END cut inner
        · have hkl : k = VL4 := by omega
          -- BEGIN cut rest
          have HKL := Lib.hid hkl; clear hkl
          have HIN : Hid (inTo s t u (valsI s u m) k = inI s t u m) := Lib.hid (by rw [HKL.out, ← HVL4.out]; rfl)
          obtain ⟨IB, hIB⟩ : ∃ x, inI s t u m = x := ⟨_, rfl⟩
          rw [HIN.out, hIB]
          obtain ⟨K, hK⟩ : ∃ K : Nat, keyI T.par s t u m = K := ⟨(keyI T.par s t u m).toNat, by have := HCO.out.key; omega⟩
          have hKU : K < U := by have h := HCO.out.key; rw [HU.out] at h; omega
          have HSET := Lib.hid (fun j => dv_set HO.out (by rw [HN.out]; exact hlt) (j := j) hK)
          have HKE := Lib.hid hK; clear hK
          cases IB
          · have HS2 : Hid (∀ j, ix (dvTo T.par s t u cells (m + 1)) j = ix (dvTo T.par s t u cells m) j) := Lib.hid (fun j => by rw [HSET.out j, if_neg (by rw [hIB]; simp)])
            clear hIB
            go_wp2
            go_roundw
            case rel => exact ⟨m + 1, by omega, by go_num, (rowIs_ext HR9.out hxi).congr (fun j hj => by rw [HS2.out]), HU9.out.trans hxi.upd⟩
            case measure => simp [intOf]; omega
          have hDB := dv_bound HO.out m (by rw [HN.out]; omega) K (by rw [HU.out]; omega)
          have hcm := HO.out.small.2 m (by rw [HN.out]; exact hlt)
          have htb : 0 ≤ timesI s t u m ∧ timesI s t u m < 8 := tm_bound (t := t) (u := u) (vals := valsI s u m) _ HCO.out.v8
          have HTI := Lib.hid (tm_is (vals := valsI s u m) HO.out.hu.1 HO.out.fol.2.1)
          have HTE : Hid (timesI s t u m = tmTo t u (valsI s u m) u.vars.length) := Lib.hid rfl
          rw [HLB3.out, HLB4.out, HVL4.out] at HTI
          rw [HVL4.out] at HTE
          rw [← HTE.out] at HTI
          clear HTE
          have HS2 : Hid (∀ j, ix (dvTo T.par s t u cells (m + 1)) j = if j = K then ix (dvTo T.par s t u cells m) K + ix cells m * timesI s t u m else ix (dvTo T.par s t u cells m) j) := Lib.hid (fun j => by rw [HSET.out j, if_pos hIB])
          clear hIB HSET
          rw [HCM.out] at hcm HS2
          obtain ⟨TM, hTM⟩ : ∃ c, timesI s t u m = c := ⟨_, rfl⟩
          obtain ⟨DK, hDK⟩ : ∃ c, ix (dvTo T.par s t u cells m) K = c := ⟨_, rfl⟩
          rw [hTM] at htb HS2 HTI
          rw [hDK] at hDB HS2
          clear hTM
          have HDE := Lib.hid hDK; clear hDK
          have hmul : -8000000 ≤ CM * TM ∧ CM * TM ≤ 8000000 := by
            have m1 : CM * TM ≤ 1000000 * TM := Int.mul_le_mul_of_nonneg_right hcm.2 htb.1
            have m2 : -1000000 * TM ≤ CM * TM := Int.mul_le_mul_of_nonneg_right hcm.1 htb.1
            omega
          have hw1 : IntKind.i64.wrap (CM * TM) = CM * TM := IntWalk.i64_in _ (by omega)
          have HXI := Lib.hid (HX9.out.trans hxi)
          have HRA2 := Lib.hid (HRA.out.congr (g := fun j => .int .i64 (ix (allL SL u.vars (valsI s u m) VL4) j)) (fun j hj => by rw [HKL.out])); clear HRA
          have hkk : k = VL4 := HKL.out
          clear HKL HIN
          subst hkk
          have c1 := (b1.ext HXI.out).cell 0 (by simp)
          have d30 := (b3.ext HXI.out).cell 0 (by simp)
          have d31 := (b3.ext HXI.out).cell 1 (by simp)
          have d32 := (b3.ext HXI.out).cell 2 (by simp)
          have d33 := (b3.ext HXI.out).cell 3 (by simp)
          have d40 := (b4.ext HXI.out).cell 0 (by simp)
          have d41 := (b4.ext HXI.out).cell 1 (by simp)
          have d42 := (b4.ext HXI.out).cell 2 (by simp)
          have d43 := (b4.ext HXI.out).cell 3 (by simp)
          have hsm := HO.out.ht.2.2.1
          rw [HLB3.out, HSL.out] at hsm
          have HSMU : Hid (¬ B3 = B4 → 0 ≤ B3) := Lib.hid (fun h => by
            rcases HO.out.fol.2.1 with h1 | ⟨_, h2⟩
            · rw [HLB3.out, HLB4.out] at h1; exact absurd h1 h
            · rw [HLB3.out] at h2
              obtain ⟨x, hx, hn⟩ := List.any_eq_true.1 h2
              obtain ⟨j, hj, rfl⟩ := List.getElem_of_mem hx
              have h3 := (HO.out.hu.1 j hj).1
              rw [ix_eq hj] at h3
              simp at hn
              omega)
          obtain ⟨E, hE⟩ : ∃ E, (B3 != B4) = E := ⟨_, rfl⟩
          go_upto_region 19 with fail
          go_cut [114] from 110 to 114 (fun s114 wx => s114 = .bool E ∧ wi = wx)
          case first =>
            go_wp2_with fail
            go_meet
            exact ⟨rfl, rfl⟩
          case rest =>
          obtain ⟨rfl, rfl⟩ := hcut
          go_upto_if 114 with fail
          go_cut [16] from 115 to 121 (fun s16 wx => s16 = .int .i64 (CM * TM) ∧ wi = wx)
          case first =>
            -- BEGIN cut times
            cases E
            · have hT1 : TM = 1 := by rw [HTI.out, if_pos (by simpa using hE)]
              clear hE
              have hcm1 : CM * TM = CM := by rw [hT1, Int.mul_one]
              have HCM1 := Lib.hid hcm1
              clear hcm1 hT1
              go_wp2_with fail
              go_meet
              exact ⟨by rw [HCM1.out], rfl⟩
            · have hne : ¬ B3 = B4 := by simpa using hE
              have h0 := HSMU.out hne
              have hTL : TM = lookL u.vars (valsI s u m) B3 k := by rw [HTI.out, if_neg hne]
              clear hE hne
              obtain ⟨si, rfl⟩ : ∃ si : Nat, B3 = si := ⟨B3.toNat, by omega⟩
              have ka := HRA2.out.cell (i := si) (by omega)
              rw [ix_allL (by omega), ← hTL] at ka
              have HTL := Lib.hid hTL; clear hTL
              go_wp2_with fail
              go_meet
              exact ⟨rfl, rfl⟩
            -- END cut times
          case rest =>
          obtain ⟨rfl, rfl⟩ := hcut
          -- BEGIN cut big
          clear hE HTI hmul hw1 HSMU hsm
          have HALL : Hid (Ints wi (.slice (some ⟨w9.heap.size, 0, none⟩) SL SL) (allL SL u.vars (valsI s u m) u.vars.length)) := Lib.hid (by
            rw [HVL4.out]
            exact (Own.of_rowIs (lo := 0) (hi := wi.heap.size) (xs := allL SL u.vars (valsI s u m) k) HRA2.out (allL_len _ _ _ _) (fun j hj => rfl) (Nat.zero_le _) HRA2.out.lt (by omega)).ints)
          have I7W := Lib.hid (((I7.out.upd (HU9.out.trans hxi.upd) (fun b hb e => by have := (I7.out.blk hb).1; omega)).own (Nat.le_refl _)).ints)
          have I8W := Lib.hid ((I8.out.upd (HU9.out.trans hxi.upd) (fun b hb e => by have := (I8.out.blk hb).1; omega)).read)
          have HLV := Lib.hid (partL_lev HO.out.sch HO.out.ht.1)
          have HPL := Lib.hid HCO.out.place
          have hpl := HPL.out.1
          have HBD := uCnt_bound HO.out.geo HO.out.sch HO.out.ht.1
          have HPK : Hid (pickL (allL SL u.vars (valsI s u m) u.vars.length) t.vars = ownI s t u m) := Lib.hid (pick_all (by have h := HO.out.ht.1; rw [HSL.out] at h; exact h))
          have HRS : Hid (Rising (SL : Int) t.vars) := Lib.hid (by have h := HO.out.ht.1; rw [HSL.out] at h; exact h)
          have HAL : Hid (t.vars.length ≤ 6) := Lib.hid (by rw [HVL3.out]; exact hv3)
          have hidb := idxTo_bound HLV.out HCO.out.fitT _ (Nat.le_refl _)
          have hkey : keyI T.par s t u m = (placeI T.par s t u m : Int) * cntL (partL s t.vars) + idxL (partL s t.vars) (ownI s t u m) := rfl
          rw [HKE.out] at hkey
          have e1 : idxTo (partL s t.vars) (ownI s t u m) (partL s t.vars).length = idxL (partL s t.vars) (ownI s t u m) := rfl
          have e2 : cntTo (partL s t.vars) (partL s t.vars).length = cntL (partL s t.vars) := rfl
          rw [e1, e2] at hidb
          clear e1 e2
          rw [HLA3.out] at hpl HPL HBD
          rw [HUP.out] at HPL
          obtain ⟨p, hp⟩ : ∃ p, placeI T.par s t u m = p := ⟨_, rfl⟩
          obtain ⟨C, hC⟩ : ∃ C, cntL (partL s t.vars) = C := ⟨_, rfl⟩
          obtain ⟨IX, hIX⟩ : ∃ C, idxL (partL s t.vars) (ownI s t u m) = C := ⟨_, rfl⟩
          rw [hp] at hpl HPL hkey
          rw [hC] at hkey hidb HBD
          rw [hIX] at hkey hidb
          have HC := Lib.hid hC; clear hC hp
          have HIX := Lib.hid hIX; clear hIX
          have hpc0 : 0 ≤ (p : Int) * C := Int.mul_nonneg (by omega) (by omega)
          obtain ⟨PC, hPC⟩ : ∃ PC : Int, (p : Int) * C = PC := ⟨_, rfl⟩
          rw [hPC] at hkey hpc0
          have hwP : IntKind.i64.wrap PC = PC := IntWalk.i64_in _ (by omega)
          have hkey' : PC + IX = (K : Int) := hkey.symm
          clear hkey
          have hwK : IntKind.i64.wrap (K : Int) = K := IntWalk.i64_in _ (by omega)
          obtain ⟨NM, hNM⟩ : ∃ x, CM * TM = x := ⟨_, rfl⟩
          rw [hNM] at HS2 ⊢
          have hnm : -8000000 ≤ NM ∧ NM ≤ 8000000 := by
            have m1 : CM * TM ≤ 1000000 * TM := Int.mul_le_mul_of_nonneg_right hcm.2 htb.1
            have m2 : -1000000 * TM ≤ CM * TM := Int.mul_le_mul_of_nonneg_right hcm.1 htb.1
            omega
          clear hNM
          obtain ⟨DS, hDS⟩ : ∃ x, DK + NM = x := ⟨_, rfl⟩
          rw [hDS] at HS2
          have hwD : IntKind.i64.wrap DS = DS := IntWalk.i64_in _ (by omega)
          clear hidb HBD hpc0 hnm hDB htb hcm
          have HRI := Lib.hid (rowIs_ext HR9.out hxi)
          have ko : wi.cell? ⟨w6.heap.size, K, none⟩ = some (.int .i64 DK) := by
            have h := HRI.out.cell (i := K) hKU
            rw [HDE.out] at h
            exact h
          have hMK : ∀ x, Ext wi x → (Ext wi x ∧ x.cell? ⟨w.heap.size, 0, none⟩ = some y1 ∧ x.cell? ⟨w.heap.size + 1, 0, none⟩ = some (.int .i64 A3) ∧ x.cell? ⟨w.heap.size + 1, 1, none⟩ = some (.slice xa31 VL3 xm31) ∧ x.cell? ⟨w6.heap.size, K, none⟩ = some (.int .i64 DK)) := fun x e => ⟨e, e.cell c1, e.cell d30, e.cell d31, e.cell ko⟩
          have MK := Lib.hid hMK; clear hMK
          have XP := Lib.hid ((Ext.refl wi).drew)
          have XE := Lib.hid ((Ext.refl wi).drew)
          clear c1 d30 d31 d32 d33 d40 d41 d42 d43 ko
          go_upto_region 21 with fail
          refine wp_region_tail_at 23 _ (fun x => Ext wi x ∧ x.cell? ⟨w.heap.size, 0, none⟩ = some y1 ∧ x.cell? ⟨w.heap.size + 1, 0, none⟩ = some (.int .i64 A3) ∧ x.cell? ⟨w.heap.size + 1, 1, none⟩ = some (.slice xa31 VL3 xm31) ∧ x.cell? ⟨w6.heap.size, K, none⟩ = some (.int .i64 DK)) rfl (by kernel_rfl) rfl rfl rfl (by kernel_rfl) (by kernel_rfl) (MK.out _ XE.out) (fun hHeld => ?_)
          simp only [List.take_succ_cons, List.take_zero, List.cons_append, List.nil_append, idle]
          refine wpAnyH_take (i := 0) (v := ?_) rfl (by kernel_rfl) (by kernel_rfl) (by kernel_rfl) (fun _ _ _ h => h) (Or.inl ⟨by rfl, ?_⟩) (by assumption) ?_
          rotate_left
          focus (intro w hSw; (try dsimp only at hSw); go_simp; (try with_reducible rfl); done)
          try simp only [Act.put, List.setIfInBounds_toArray, List.set_cons_zero, List.set_cons_succ]
          refine wpAnyH_take (i := 1) (v := ?_) rfl (by kernel_rfl) (by kernel_rfl) (by kernel_rfl) (fun _ _ _ h => h) (Or.inl ⟨by rfl, ?_⟩) (by assumption) ?_
          rotate_left
          focus (intro w hSw; (try dsimp only at hSw); go_simp; (try with_reducible rfl); done)
          try simp only [Act.put, List.setIfInBounds_toArray, List.set_cons_zero, List.set_cons_succ]
          refine wpAnyH_take (i := 2) (v := ?_) rfl (by kernel_rfl) (by kernel_rfl) (by kernel_rfl) (fun _ _ _ h => h) (Or.inl ⟨by rfl, ?_⟩) (by assumption) ?_
          rotate_left
          focus (intro w hSw; (try dsimp only at hSw); go_simp; (try with_reducible rfl); done)
          try simp only [Act.put, List.setIfInBounds_toArray, List.set_cons_zero, List.set_cons_succ]
          refine wpAnyH_take (i := 3) (v := ?_) rfl (by kernel_rfl) (by kernel_rfl) (by kernel_rfl) (fun _ _ _ h => h) (Or.inl ⟨by rfl, ?_⟩) (by assumption) ?_
          rotate_left
          focus (intro w hSw; (try dsimp only at hSw); go_simp; (try with_reducible rfl); done)
          try simp only [Act.put, List.setIfInBounds_toArray, List.set_cons_zero, List.set_cons_succ]
          refine wpAnyH_take (i := 4) (v := ?_) rfl (by kernel_rfl) (by kernel_rfl) (by kernel_rfl) (fun _ _ _ h => h) (Or.inl ⟨by rfl, ?_⟩) (by assumption) ?_
          rotate_left
          focus (intro w hSw; (try dsimp only at hSw); go_simp; (try with_reducible rfl); done)
          try simp only [Act.put, List.setIfInBounds_toArray, List.set_cons_zero, List.set_cons_succ]
          refine wpAnyH_take (i := 5) (v := ?_) rfl (by kernel_rfl) (by kernel_rfl) (by kernel_rfl) (fun _ _ _ h => h) (Or.inl ⟨by rfl, ?_⟩) (by assumption) ?_
          rotate_left
          focus (intro w hSw; (try dsimp only at hSw); go_simp; (try with_reducible rfl); done)
          try simp only [Act.put, List.setIfInBounds_toArray, List.set_cons_zero, List.set_cons_succ]
          refine wpAnyH_take (i := 8) (v := ?_) rfl (by kernel_rfl) (by kernel_rfl) (by kernel_rfl) (fun _ _ _ h => h) (Or.inl ⟨by rfl, ?_⟩) (by assumption) ?_
          rotate_left
          focus (intro w hSw; (try dsimp only at hSw); go_simp; (try with_reducible rfl); done)
          try simp only [Act.put, List.setIfInBounds_toArray, List.set_cons_zero, List.set_cons_succ]
          refine wpAnyH_take (i := 11) (v := ?_) rfl (by kernel_rfl) (by kernel_rfl) (by kernel_rfl) (fun _ _ _ h => h) (Or.inl ⟨by rfl, ?_⟩) (by assumption) ?_
          rotate_left
          focus (intro w hSw; (try dsimp only at hSw); go_simp; (try with_reducible rfl); done)
          try simp only [Act.put, List.setIfInBounds_toArray, List.set_cons_zero, List.set_cons_succ]
          refine wpAnyH_take (i := 12) (v := ?_) rfl (by kernel_rfl) (by kernel_rfl) (by kernel_rfl) (fun _ _ _ h => h) (Or.inl ⟨by rfl, ?_⟩) (by assumption) ?_
          rotate_left
          focus (intro w hSw; (try dsimp only at hSw); go_simp; (try with_reducible rfl); done)
          try simp only [Act.put, List.setIfInBounds_toArray, List.set_cons_zero, List.set_cons_succ]
          refine wpAnyH_take (i := 13) (v := ?_) rfl (by kernel_rfl) (by kernel_rfl) (by kernel_rfl) (fun _ _ _ h => h) (Or.inl ⟨by rfl, ?_⟩) (by assumption) ?_
          rotate_left
          focus (intro w hSw; (try dsimp only at hSw); go_simp; (try with_reducible rfl); done)
          try simp only [Act.put, List.setIfInBounds_toArray, List.set_cons_zero, List.set_cons_succ]
          refine wpAnyH_take (i := 14) (v := ?_) rfl (by kernel_rfl) (by kernel_rfl) (by kernel_rfl) (fun _ _ _ h => h) (Or.inl ⟨by rfl, ?_⟩) (by assumption) ?_
          rotate_left
          focus (intro w hSw; (try dsimp only at hSw); go_simp; (try with_reducible rfl); done)
          try simp only [Act.put, List.setIfInBounds_toArray, List.set_cons_zero, List.set_cons_succ]
          refine wpAnyH_take (i := 20) (v := ?_) rfl (by kernel_rfl) (by kernel_rfl) (by kernel_rfl) (fun _ _ _ h => h) (Or.inl ⟨by rfl, ?_⟩) (by assumption) ?_
          rotate_left
          focus (intro w hSw; (try dsimp only at hSw); go_simp; (try with_reducible rfl); done)
          try simp only [Act.put, List.setIfInBounds_toArray, List.set_cons_zero, List.set_cons_succ]
          refine wpAnyH_ready (rs := [6]) (by kernel_rfl) (by simp) ?_
          refine AllReadyH.cons rfl (fun K hK => ?_) AllReadyH.nil
          go_simp
          (go_at_call 57; (with_reducible refine (gUp_c _ T av A3 _ (R1.out.ext (HXI.out.trans XE.out)) HO.out.geo hal).mono ?_); rw [HEB.out]; rintro e wA ⟨rfl, uA⟩; have XP := Lib.hid (XP.out.trans uA); have XE := Lib.hid (XE.out.trans uA))
          dsimp only
          refine hK.out _ _ ?_ (fun hHeld => ?_)
          · exact MK.out _ XE.out
          clear hK K
          try simp only [Act.put, List.setIfInBounds_toArray, List.set_cons_zero, List.set_cons_succ]
          refine wpAnyH_ready (rs := [7]) (by kernel_rfl) (by simp) ?_
          refine AllReadyH.cons rfl (fun K hK => ?_) AllReadyH.nil
          go_simp
          (go_at_call 56; (with_reducible refine (l1Find_at _ (levL T.par A3) (b : Int) p _ (I7W.out.ext XE.out) HPL.out).mono ?_); rintro e wA ⟨rfl, hwA⟩; rw [hwA]; clear hwA)
          dsimp only
          refine hK.out _ _ ?_ (fun hHeld => ?_)
          · exact MK.out _ XE.out
          clear hK K
          try simp only [Act.put, List.setIfInBounds_toArray, List.set_cons_zero, List.set_cons_succ]
          refine wpAnyH_ready (rs := [9]) (by kernel_rfl) (by simp) ?_
          refine AllReadyH.cons rfl (fun K hK => ?_) AllReadyH.nil
          go_simp
          (go_at_call 58; (with_reducible refine (sCount_c _ (partL s t.vars) _ (I8W.out.ext XE.out) HLV.out).mono ?_); rw [HC.out]; rintro e wA ⟨rfl, uA⟩; have XP := Lib.hid (XP.out.trans uA); have XE := Lib.hid (XE.out.trans uA))
          dsimp only
          refine hK.out _ _ ?_ (fun hHeld => ?_)
          · exact MK.out _ XE.out
          clear hK K
          try simp only [Act.put, List.setIfInBounds_toArray, List.set_cons_zero, List.set_cons_succ]
          refine wpAnyH_take (i := 10) (v := ?_) rfl (by kernel_rfl) (by kernel_rfl) (by kernel_rfl) (fun _ _ _ h => h) (Or.inl ⟨by rfl, ?_⟩) (by assumption) ?_
          rotate_left
          focus (intro w hSw; (try dsimp only at hSw); go_simp; (try with_reducible rfl); done)
          try simp only [Act.put, List.setIfInBounds_toArray, List.set_cons_zero, List.set_cons_succ]
          refine wpAnyH_ready (rs := [15]) (by kernel_rfl) (by simp) ?_
          refine AllReadyH.cons rfl (fun K hK => ?_) AllReadyH.nil
          go_simp
          (go_at_call 60; (with_reducible refine (sPick_c _ _ (allL SL u.vars (valsI s u m) u.vars.length) t.vars (SL : Int) _ (HALL.out.ext XE.out) ((R3.out.ext (HXI.out.trans XE.out)).f1) HRS.out (by rw [allL_len]) HAL.out).mono ?_); rw [HPK.out]; rintro e wA ⟨zD, rfl, iD, uA⟩; have XP := Lib.hid (XP.out.trans uA); have XE := Lib.hid (XE.out.trans uA); have IP := Lib.hid iD; obtain ⟨aD, cD, rfl, _, _, gD⟩ := iD; clear gD; have XP := Lib.hid (Ext.refl wA))
          dsimp only
          refine hK.out _ _ ?_ (fun hHeld => ?_)
          · exact MK.out _ XE.out
          clear hK K
          try simp only [Act.put, List.setIfInBounds_toArray, List.set_cons_zero, List.set_cons_succ]
          refine wpAnyH_ready (rs := [16]) (by kernel_rfl) (by simp) ?_
          refine AllReadyH.cons rfl (fun K hK => ?_) AllReadyH.nil
          go_simp
          (go_at_call 59; (with_reducible refine (sIndex_c _ _ (partL s t.vars) (ownI s t u m) _ (I8W.out.ext XE.out) (IP.out.ext XP.out) HLV.out HCO.out.fitT).mono ?_); rw [HIX.out]; rintro e wA ⟨rfl, uA⟩; have XP := Lib.hid (XP.out.trans uA); have XE := Lib.hid (XE.out.trans uA))
          dsimp only
          refine hK.out _ _ ?_ (fun hHeld => ?_)
          · exact MK.out _ XE.out
          clear hK K
          try simp only [Act.put, List.setIfInBounds_toArray, List.set_cons_zero, List.set_cons_succ]
          refine wpAnyH_take (i := 17) (v := ?_) rfl (by kernel_rfl) (by kernel_rfl) (by kernel_rfl) (fun _ _ _ h => h) (Or.inl ⟨by rfl, ?_⟩) (by assumption) ?_
          rotate_left
          focus (intro w hSw; (try dsimp only at hSw); go_simp; (try with_reducible rfl); done)
          try simp only [Act.put, List.setIfInBounds_toArray, List.set_cons_zero, List.set_cons_succ]
          refine wpAnyH_take (i := 18) (v := ?_) rfl (by kernel_rfl) (by kernel_rfl) (by kernel_rfl) (fun _ _ _ h => h) (Or.inl ⟨by rfl, ?_⟩) (by assumption) ?_
          rotate_left
          focus (intro w hSw; (try dsimp only at hSw); go_simp; (try with_reducible rfl); done)
          try simp only [Act.put, List.setIfInBounds_toArray, List.set_cons_zero, List.set_cons_succ]
          refine wpAnyH_take (i := 19) (v := ?_) rfl (by kernel_rfl) (by kernel_rfl) (by kernel_rfl) (fun _ _ _ h => h) (Or.inl ⟨by rfl, ?_⟩) (by assumption) ?_
          rotate_left
          focus (intro w hSw; (try dsimp only at hSw); go_simp; (try with_reducible rfl); done)
          try simp only [Act.put, List.setIfInBounds_toArray, List.set_cons_zero, List.set_cons_succ]
          refine wpAnyH_take (i := 21) (v := ?_) rfl (by kernel_rfl) (by kernel_rfl) (by kernel_rfl) (fun _ _ _ h => h) (Or.inl ⟨by rfl, ?_⟩) (by assumption) ?_
          rotate_left
          focus (intro w hSw; (try dsimp only at hSw); go_simp; (try with_reducible rfl); done)
          try simp only [Act.put, List.setIfInBounds_toArray, List.set_cons_zero, List.set_cons_succ]
          refine wpAnyH_take (i := 22) (v := ?_) rfl (by kernel_rfl) (by kernel_rfl) (by kernel_rfl) (fun _ _ _ h => h) (Or.inl ⟨by rfl, ?_⟩) (by assumption) ?_
          rotate_left
          focus (intro w hSw; (try dsimp only at hSw); go_simp; (try with_reducible rfl); done)
          try simp only [Act.put, List.setIfInBounds_toArray, List.set_cons_zero, List.set_cons_succ]
          refine wpAnyH_take (i := 23) (v := ?_) rfl (by kernel_rfl) (by kernel_rfl) (by kernel_rfl) (fun _ _ _ h => h) (Or.inl ⟨by rfl, ?_⟩) (by assumption) ?_
          rotate_left
          focus (intro w hSw; (try dsimp only at hSw); go_simp; (try with_reducible rfl); done)
          try simp only [Act.put, List.setIfInBounds_toArray, List.set_cons_zero, List.set_cons_succ]
          refine wpAnyH_done (by kernel_rfl) ?_ _
          unfold tailQ
          have HR21 := Lib.hid (rowIs_ext HRI.out XE.out)
          have kf := HR21.out.frozen K
          have ko := HR21.out.cell (i := K) hKU
          go_simp
          go_wp2
          go_roundw
          case rel => exact ⟨m + 1, by omega, by go_num, (HR21.out.set K _).congr (fun j hj => by rw [HS2.out]; by_cases e : j = K <;> simp [e]), ((HU9.out.trans hxi.upd).trans XE.out.upd).setCell _ (fun _ => rfl)⟩
          case measure => simp [intOf]; omega
          -- END cut big
          -- END cut rest
    · have hml : m = n := by omega
      have HML := Lib.hid hml; clear hml
      have hs6 := HX.out.size
      have hs0 := u0.size
      go_wp2
      go_ret2
      exact ⟨_, rfl, Own.of_rowIs (lo := w.heap.size) (hi := wo.heap.size) HR.out (by rw [dv_len, HU.out]; omega) (fun j hj => by rw [← HML.out]) (by omega) HR.out.lt (by omega), u0.trans HXO.out⟩
  -- END cut loop
end Go.Proofs.Ytolmmhdeebgglaa
