/- Cells and their indices: CellAt, cellAt, cellIndex, nCells, slices.BinarySearch. -/
import Derived.Test.YtolmmhdeebgglaaDb
import Derived.Deep.RegionHeld3
import Derived.Deep.CutRange
namespace Go.Proofs.Ytolmmhdeebgglaa
open Go.RowKit

set_option maxHeartbeats 3200000 in
theorem binary_at (v : Value) (xs : List Int) (n : Int) (r : Nat) (w : World) (h : Ints w v xs) (hl : xs.length ≤ 1000) (hi : ∀ j k, j < k → k < xs.length → ix xs j < ix xs k) (hr : r < xs.length ∧ ix xs r = n) :
    Calls Try.prog 100 #[v, .int .i64 n] w fun e w' => e = .returned (.tuple #[.int .i64 r, .bool true]) ∧ w' = w := by
  obtain ⟨ao, cap, rfl, h1, h2, h3⟩ := h
  have G := Lib.hid h3; clear h3
  have HI := Lib.hid hi; clear hi
  have HR := Lib.hid hr
  have hr1 := hr.1; clear hr
  obtain ⟨L, hL⟩ : ∃ L, xs.length = L := ⟨_, rfl⟩
  rw [hL] at hl hr1 h1 ⊢
  have HL := Lib.hid hL; clear hL
  go_enter Try.func100, Try.ntmps100
  go_wp2
  go_loop [7, 8] (fun i j => ∃ a b : Nat, a ≤ r ∧ r ≤ b ∧ b ≤ L ∧ i = .int .i64 a ∧ j = .int .i64 b) (fun i j => (intOf j).toNat - (intOf i).toNat)
  case atStart => exact ⟨0, L, Nat.zero_le _, by omega, Nat.le_refl _, rfl, rfl⟩
  case round =>
    obtain ⟨a, b, ha, hb, hbl, rfl, rfl⟩ := hrel
    by_cases hlt : a < b
    · obtain ⟨m, hm⟩ : ∃ m : Nat, (a + b) / 2 = m := ⟨_, rfl⟩
      have hm1 : a ≤ m := by omega
      have hm2 : m < b := by omega
      have hmi : ((a : Int) + b) / 2 = m := by omega
      have hmn : ((a : Int) + b) >>> 1 = (m : Int) := by rw [Int.shiftRight_eq_div_pow]; exact hmi
      clear hm
      obtain ⟨b0, o0, rfl, hc⟩ := G.out m (by rw [HL.out]; omega)
      have HX : Hid ((m < r → ix xs m < n) ∧ (r ≤ m → ¬ ix xs m < n)) := Lib.hid ⟨fun h => by
        have := HI.out m r h (by rw [HL.out]; exact hr1)
        rw [HR.out.2] at this; exact this, fun h => by
        by_cases e : r = m
        · subst e; rw [HR.out.2]; omega
        · have := HI.out r m (by omega) (by rw [HL.out]; omega)
          rw [HR.out.2] at this; omega⟩
      obtain ⟨X, hX⟩ : ∃ X, ix xs m = X := ⟨_, rfl⟩
      rw [hX] at hc HX
      clear hX
      by_cases hmr : m < r
      · have hx := HX.out.1 hmr
        go_wp2
        go_round
        case rel => exact ⟨m + 1, b, by omega, hb, hbl, by go_num, rfl⟩
        case measure => simp [intOf]; omega
      · have hx := HX.out.2 (by omega)
        go_wp2
        go_round
        case rel => exact ⟨a, m, ha, by omega, by omega, rfl, rfl⟩
        case measure => simp [intOf]; omega
    · have har : a = r := by omega
      obtain ⟨b0, o0, rfl, hc⟩ := G.out r (by rw [HL.out]; exact hr1)
      rw [HR.out.2] at hc
      subst har
      go_wp2
      go_ret2
      exact ⟨rfl, rfl⟩


set_option maxHeartbeats 3200000 in
theorem cellIndex_c (v1 v2 v3 v5 : Value) (T : Ge) (s : List Vr) (t : Ta) (a p : Nat) (xs : List Int) (w : World) (h1 : GeR w v1 T) (h2 : Vrs w v2 s) (h3 : TaR w v3 t) (h5 : Ints w v5 xs) (hg : GeoP T.par) (hs : SchP s) (hr : TabP T.par s t) (hf : FitV (partL s t.vars) xs) (hp : p < (levL T.par t.level).length ∧ ix (levL T.par t.level) p = a) :
    Calls Try.prog 93 #[v1, v2, v3, .int .i64 a, v5] w fun e w' => e = .returned (.int .i64 ((p : Int) * cntL (partL s t.vars) + idxL (partL s t.vars) xs)) ∧ Ext w w' := by
  have HF := Lib.hid hf; clear hf
  have R5 := Lib.hid h5
  obtain ⟨a5, c5, rfl, _, _, g5⟩ := h5
  clear g5
  obtain ⟨n5, hn5⟩ : ∃ n, xs.length = n := ⟨_, rfl⟩
  rw [hn5] at R5 ⊢
  clear hn5
  have HB := Lib.hid (uCnt_bound hg hs hr.1)
  have HLV := Lib.hid (partL_lev hs hr.1)
  have HO := Lib.hid (And.intro hg (And.intro hs hr.1)); clear hg hs hr
  have R1 := Lib.hid h1
  have R2 := Lib.hid h2; clear h2
  have R3 := Lib.hid h3
  obtain ⟨y1, rfl, i1⟩ := h1
  clear i1
  obtain ⟨xa1, xm1, xa2, xm2, rfl, hx1, hx2⟩ := h3.form
  clear h3
  obtain ⟨A, hA⟩ : ∃ A, t.level = A := ⟨_, rfl⟩
  obtain ⟨B, hB⟩ : ∃ B, t.sum = B := ⟨_, rfl⟩
  obtain ⟨VL, hVL⟩ : ∃ B, t.vars.length = B := ⟨_, rfl⟩
  obtain ⟨CL, hCL⟩ : ∃ B, t.cond.length = B := ⟨_, rfl⟩
  rw [hA, hB, hVL, hCL] at R3
  rw [hVL] at hx1
  rw [hCL] at hx2
  rw [hA, hB, hVL, hCL]
  have HLA := Lib.hid hA
  have HVL := Lib.hid hVL
  clear hB hVL hCL
  have u0 := ((Ext.refl w).alloc (.cells #[y1] 33)).alloc (.cells #[.int .i64 A, .slice xa1 VL xm1, .slice xa2 CL xm2, .int .i64 B] 56)
  have b1 := (Box.new w 33 #[y1] rfl).alloc (.cells #[.int .i64 A, .slice xa1 VL xm1, .slice xa2 CL xm2, .int .i64 B] 56)
  have b2 := Box.new (w.alloc (.cells #[y1] 33)) 56 #[.int .i64 A, .slice xa1 VL xm1, .slice xa2 CL xm2, .int .i64 B] (b := w.heap.size + 1) (by simp)
  have R1 := Lib.hid (R1.out.ext u0)
  have R2 := Lib.hid (R2.out.ext u0)
  have R3 := Lib.hid (R3.out.ext u0)
  have c1 := b1.cell 0 (by simp)
  have d0 := b2.cell 0 (by simp)
  have d1 := b2.cell 1 (by simp)
  have d2 := b2.cell 2 (by simp)
  have d3 := b2.cell 3 (by simp)
  have HP := Lib.hid hp; clear hp
  have R5 := Lib.hid (R5.out.ext u0)
  have HID := Lib.hid (idxTo_bound HLV.out HF.out _ (Nat.le_refl _))
  have hpl := HP.out.1
  have hb := HB.out
  rw [hA] at hpl hb HP
  clear hA
  have hlv := levTo_len T.par A T.par.length
  obtain ⟨LL, hLL⟩ : ∃ L, (levL T.par A).length = L := ⟨_, rfl⟩
  rw [hLL] at hpl hb
  have HLL := Lib.hid hLL; clear hLL
  obtain ⟨C, hC⟩ : ∃ C, cntL (partL s t.vars) = C := ⟨_, rfl⟩
  obtain ⟨X, hX⟩ : ∃ C, idxL (partL s t.vars) xs = C := ⟨_, rfl⟩
  have hid := HID.out
  have e1 : idxTo (partL s t.vars) xs (partL s t.vars).length = X := hX
  have e2 : cntTo (partL s t.vars) (partL s t.vars).length = C := hC
  rw [e1, e2] at hid
  rw [hC] at hb
  rw [hC, hX]
  have HC := Lib.hid hC; clear hC e2
  have HX := Lib.hid hX; clear hX e1
  have hpc : 0 ≤ (p : Int) * C ∧ (p : Int) * C ≤ 7864320 := by
    have m1 : 0 ≤ (p : Int) * C := Int.mul_nonneg (by omega) (by omega)
    have m2 : (p : Int) * C ≤ (p : Int) * 262144 := Int.mul_le_mul_of_nonneg_left (by omega) (by omega)
    exact ⟨m1, by omega⟩
  have hw1 : IntKind.i64.wrap ((p : Int) * C) = (p : Int) * C := IntWalk.i64_in _ (by omega)
  have hw2 : IntKind.i64.wrap ((p : Int) * C + X) = (p : Int) * C + X := IntWalk.i64_in _ (by omega)
  have hlen : (levL T.par A).length ≤ 1000 := by rw [HLL.out]; omega
  have HLEN := Lib.hid hlen; clear hlen
  clear hb hlv
  go_enter Try.func93, Try.ntmps93
  go_wp2_with fail
  refine (areasAt_c _ T A _ R1.out HO.out.1).mono ?_
  rintro e w6 ⟨z6, rfl, i6, u6⟩
  have I6 := Lib.hid i6
  obtain ⟨a6, c6, rfl, _, _, g6⟩ := i6
  clear g6
  rw [HLL.out] at I6 ⊢
  go_wp2_with fail
  refine (binary_at _ (levL T.par A) a p _ I6.out HLEN.out (fun j k hjk hk => levL_lt hjk hk) HP.out).mono ?_
  rintro e w7 ⟨rfl, hw7⟩
  rw [hw7]
  clear hw7
  have d0 := Ext.cell u6 d0
  have d1 := Ext.cell u6 d1
  have d2 := Ext.cell u6 d2
  have d3 := Ext.cell u6 d3
  go_wp2_with fail
  refine (crossed_c _ _ s t _ (R2.out.ext u6) (R3.out.ext u6) HO.out.2.1 HO.out.2.2).mono ?_
  rintro e w8 ⟨z8, rfl, i8, u8⟩
  have I8 := Lib.hid i8
  obtain ⟨a8, c8, rfl, _, _, g8⟩ := i8
  clear g8
  obtain ⟨n8, hn8⟩ : ∃ n, (partL s t.vars).length = n := ⟨_, rfl⟩
  rw [hn8] at I8 ⊢
  clear hn8
  go_wp2_with fail
  refine (combinations_c _ _ _ I8.out HLV.out).mono ?_
  rw [HC.out]
  rintro e w9 ⟨rfl, u9⟩
  go_wp2_with fail
  refine (indexOfValues_c _ _ _ xs _ (I8.out.ext u9) (R5.out.ext (u6.trans (u8.trans u9))) HLV.out HF.out).mono ?_
  rw [HX.out]
  rintro e w10 ⟨rfl, hw10⟩
  rw [hw10]
  clear hw10
  go_wp2
  go_ret
  exact ⟨rfl, u0.trans (u6.trans (u8.trans u9))⟩

set_option maxRecDepth 100000 in
set_option maxHeartbeats 3200000 in
theorem CellAt_c (v1 v2 v3 : Value) (T : Ge) (s : List Vr) (t : Ta) (i : Nat) (w : World) (h1 : GeR w v1 T) (h2 : Vrs w v2 s) (h3 : TaR w v3 t) (hg : GeoP T.par) (hs : SchP s) (hr : TabP T.par s t) (hi : (i : Int) < uCnt T.par s t) (hw : WfV s) :
    Calls Try.prog 54 #[v1, v2, v3, .int .i64 i] w fun e w' => ∃ v', e = .returned (.tuple #[.int .i64 (areaI T.par s t i), v', .bool true]) ∧ Ints w' v' (valsI s t i) ∧ Ext w w' := by
  have HBD := uCnt_bound hg hs hr.1
  have HLV := Lib.hid (partL_lev hs hr.1)
  have HO := Lib.hid (And.intro hg (And.intro hs hr)); clear hg hs
  have HAB : Hid (allB T.par s t = true) := Lib.hid (allB_true.2 HO.out)
  have HWF := Lib.hid hw; clear hw
  have R1 := Lib.hid h1
  have R2 := Lib.hid h2; clear h2
  have R3 := Lib.hid h3
  obtain ⟨y1, rfl, i1⟩ := h1
  clear i1
  obtain ⟨xa1, xm1, xa2, xm2, rfl, hx1, hx2⟩ := h3.form
  clear h3
  obtain ⟨A, hA⟩ : ∃ A, t.level = A := ⟨_, rfl⟩
  obtain ⟨B, hB⟩ : ∃ B, t.sum = B := ⟨_, rfl⟩
  obtain ⟨VL, hVL⟩ : ∃ B, t.vars.length = B := ⟨_, rfl⟩
  obtain ⟨CL, hCL⟩ : ∃ B, t.cond.length = B := ⟨_, rfl⟩
  rw [hA, hB, hVL, hCL] at R3
  rw [hVL] at hx1
  rw [hCL] at hx2
  rw [hA, hB, hVL, hCL]
  have HLA := Lib.hid hA
  have HVL := Lib.hid hVL
  clear hB hVL hCL
  have u0 := ((Ext.refl w).alloc (.cells #[y1] 33)).alloc (.cells #[.int .i64 A, .slice xa1 VL xm1, .slice xa2 CL xm2, .int .i64 B] 56)
  have b1 := (Box.new w 33 #[y1] rfl).alloc (.cells #[.int .i64 A, .slice xa1 VL xm1, .slice xa2 CL xm2, .int .i64 B] 56)
  have b2 := Box.new (w.alloc (.cells #[y1] 33)) 56 #[.int .i64 A, .slice xa1 VL xm1, .slice xa2 CL xm2, .int .i64 B] (b := w.heap.size + 1) (by simp)
  have R1 := Lib.hid (R1.out.ext u0)
  have R2 := Lib.hid (R2.out.ext u0)
  have R3 := Lib.hid (R3.out.ext u0)
  have c1 := b1.cell 0 (by simp)
  have d0 := b2.cell 0 (by simp)
  have d1 := b2.cell 1 (by simp)
  have d2 := b2.cell 2 (by simp)
  have d3 := b2.cell 3 (by simp)
  have hq0 : 0 ≤ (i : Int) / cntL (partL s t.vars) ∧ (i : Int) / cntL (partL s t.vars) < (levL T.par t.level).length := by
    have e : uCnt T.par s t = ((levL T.par t.level).length : Int) * cntL (partL s t.vars) := rfl
    exact ⟨Int.ediv_nonneg (by omega) (by omega), Int.ediv_lt_of_lt_mul (by omega) (by omega)⟩
  have hq1 : 0 ≤ (i : Int) % cntL (partL s t.vars) ∧ (i : Int) % cntL (partL s t.vars) < cntL (partL s t.vars) := ⟨Int.emod_nonneg _ (by omega), Int.emod_lt_of_pos _ (by omega)⟩
  have hu6 := hr.2.2.2.2
  have hbc := HBD.2
  have hl30 := HBD.1
  clear HBD hr
  have HAR : Hid (areaI T.par s t i = ix (levL T.par A) ((i : Int) / cntL (partL s t.vars)).toNat) := Lib.hid (by rw [← hA]; rfl)
  have HVS : Hid (valsI s t i = vlL (partL s t.vars) ((i : Int) % cntL (partL s t.vars))) := Lib.hid rfl
  rw [HVS.out]
  rw [hA] at hq0 hl30
  clear hA
  obtain ⟨U, hU⟩ : ∃ U, uCnt T.par s t = U := ⟨_, rfl⟩
  rw [hU] at hi hu6 hbc
  have HU := Lib.hid hU; clear hU
  have HLL := Lib.hid hq0.2
  obtain ⟨C, hC⟩ : ∃ C, cntL (partL s t.vars) = C := ⟨_, rfl⟩
  rw [hC] at HAR hq0 hq1 hbc HLL ⊢
  have HC := Lib.hid hC; clear hC
  obtain ⟨q, hq⟩ : ∃ q : Nat, (i : Int) / C = q := ⟨((i : Int) / C).toNat, by omega⟩
  obtain ⟨r, hrr⟩ : ∃ r : Nat, (i : Int) % C = r := ⟨((i : Int) % C).toNat, by omega⟩
  have hqt : Int.tdiv (i : Int) C = q := by rw [Int.tdiv_eq_ediv_of_nonneg (by omega)]; exact hq
  have hrt : Int.tmod (i : Int) C = r := by rw [Int.tmod_eq_emod_of_nonneg (by omega)]; exact hrr
  rw [hq] at HAR HLL hq0
  rw [hrr] at hq1 ⊢
  have eq1 : ((q : Int)).toNat = q := by omega
  rw [eq1] at HAR
  clear eq1
  rw [HAR.out]
  obtain ⟨AR, hAR⟩ : ∃ X, ix (levL T.par A) q = X := ⟨_, rfl⟩
  rw [hAR] at HAR ⊢
  have HA2 := Lib.hid hAR; clear hAR
  have hC0 : ¬ C = 0 := by omega
  have hU3 : IntKind.i64.wrap (U - 1) = U - 1 := IntWalk.i64_in _ (by omega)
  have HQ := Lib.hid (And.intro hq hrr)
  have hwq : IntKind.i64.wrap (q : Int) = q := IntWalk.i64_in _ (by omega)
  go_enter Try.func54, Try.ntmps54
  go_wp2_with fail
  refine (uGood_b true _ _ _ T s t _ HAB.out R1.out R2.out R3.out HWF.out).mono ?_
  rintro e w3 ⟨rfl, u3⟩
  have e1 := Ext.cell u3 c1
  have f0 := Ext.cell u3 d0
  have f1 := Ext.cell u3 d1
  have f2 := Ext.cell u3 d2
  have f3 := Ext.cell u3 d3
  go_wp2_with fail
  refine (uCount_c _ _ _ T s t _ (R1.out.ext u3) (R2.out.ext u3) (R3.out.ext u3) HO.out.1 HO.out.2.1 HO.out.2.2.1).mono ?_
  rw [HU.out]
  rintro e w4 ⟨rfl, u4⟩
  have f1' := Ext.cell u4 f1
  clear e1 f0 f1 f2 f3
  go_wp2_with fail
  refine (l1In_b true (i : Int) 0 (U - 1) _ (by simp; omega)).mono ?_
  rintro e w5 ⟨rfl, hw5⟩
  rw [hw5]
  clear hw5
  go_wp2_with fail
  refine (sPart_c _ _ s t.vars _ (R2.out.ext (u3.trans u4)) (R3.out.f1.ext (u3.trans u4)) HO.out.2.1 HO.out.2.2.1).mono ?_
  rintro e w8 ⟨z8, rfl, i8, u8⟩
  have I8 := Lib.hid i8
  obtain ⟨a8, c8, rfl, _, _, g8⟩ := i8
  clear g8
  obtain ⟨n8, hn8⟩ : ∃ n, (partL s t.vars).length = n := ⟨_, rfl⟩
  rw [hn8] at I8 ⊢
  clear hn8
  go_wp2_with fail
  refine (sCount_c _ _ _ I8.out HLV.out).mono ?_
  rw [HC.out]
  rintro e w9 ⟨rfl, u9⟩
  go_upto_region 5 with fail
  obtain ⟨wb, hwb⟩ : ∃ wb, wb = w9 := ⟨_, rfl⟩
  have ub := u3.trans (u4.trans (u8.trans u9))
  rw [← hwb] at ub ⊢
  have u9' : Ext w8 wb := by rw [hwb]; exact u9
  clear hwb u9
  have c1 := Ext.cell ub c1
  have d0 := Ext.cell ub d0
  clear d1 d2 d3
  have X0 := (Ext.refl wb).drew
  go_region_with (first
      | (go_at_call 52; (with_reducible refine (gLevel_c _ T A _ (R1.out.ext (ub.trans X7.out)) HO.out.1).mono ?_); rintro e w6 ⟨z6, rfl, i6, u6⟩; obtain ⟨a6, c6, rfl, _, _, g6⟩ := i6; obtain ⟨b6, o6, rfl, hc6⟩ := g6 q (by have := HLL.out; omega); rw [HA2.out] at hc6; clear g6; have XE := Lib.hid (X7.out.trans u6); have I7 := Lib.hid (I7.out.ext u6))
      | (go_at_call 83; (with_reducible refine (sAt_c _ _ (r : Int) _ (I8.out.ext (u9'.trans X6.out)) HLV.out (by omega)).mono ?_); rintro e w7 ⟨z7, rfl, i7, u7⟩; have hc6 := Ext.cell u7 hc6; have I7 := Lib.hid i7; have XE := Lib.hid (X6.out.trans u7); obtain ⟨a7, c7, rfl, _, _, g7⟩ := i7; clear g7)
      | (go_at_call 83; (with_reducible refine (sAt_c _ _ (r : Int) _ (I8.out.ext (u9'.trans X0)) HLV.out (by omega)).mono ?_); rintro e w7 ⟨z7, rfl, i7, u7⟩; have I7 := Lib.hid i7; have X7 := Lib.hid (X0.trans u7); obtain ⟨a7, c7, rfl, _, _, g7⟩ := i7; clear g7; have c17 := Ext.cell X7.out c1; have d07 := Ext.cell X7.out d0)
      | (go_at_call 52; (with_reducible refine (gLevel_c _ T A _ (R1.out.ext (ub.trans X0)) HO.out.1).mono ?_); rintro e w6 ⟨z6, rfl, i6, u6⟩; obtain ⟨a6, c6, rfl, _, _, g6⟩ := i6; obtain ⟨b6, o6, rfl, hc6⟩ := g6 q (by have := HLL.out; omega); rw [HA2.out] at hc6; clear g6; have X6 := Lib.hid (X0.trans u6)))
  all_goals
    go_wp2
    go_ret3
    exact ⟨_, rfl, I7.out, u0.trans (ub.trans XE.out)⟩

set_option maxRecDepth 100000 in
set_option maxHeartbeats 3200000 in
theorem cellAt_c (v1 v2 v3 : Value) (T : Ge) (s : List Vr) (t : Ta) (i : Nat) (w : World) (h1 : GeR w v1 T) (h2 : Vrs w v2 s) (h3 : TaR w v3 t) (hg : GeoP T.par) (hs : SchP s) (hr : TabP T.par s t) (hi : (i : Int) < uCnt T.par s t) :
    Calls Try.prog 65 #[v1, v2, v3, .int .i64 i] w fun e w' => ∃ v', e = .returned (.tuple #[.int .i64 (areaI T.par s t i), v']) ∧ Ints w' v' (valsI s t i) ∧ Ext w w' := by
  have HBD := uCnt_bound hg hs hr.1
  have HLV := Lib.hid (partL_lev hs hr.1)
  have HO := Lib.hid (And.intro hg (And.intro hs hr)); clear hg hs
  have R1 := Lib.hid h1
  have R2 := Lib.hid h2; clear h2
  have R3 := Lib.hid h3
  obtain ⟨y1, rfl, i1⟩ := h1
  clear i1
  obtain ⟨xa1, xm1, xa2, xm2, rfl, hx1, hx2⟩ := h3.form
  clear h3
  obtain ⟨A, hA⟩ : ∃ A, t.level = A := ⟨_, rfl⟩
  obtain ⟨B, hB⟩ : ∃ B, t.sum = B := ⟨_, rfl⟩
  obtain ⟨VL, hVL⟩ : ∃ B, t.vars.length = B := ⟨_, rfl⟩
  obtain ⟨CL, hCL⟩ : ∃ B, t.cond.length = B := ⟨_, rfl⟩
  rw [hA, hB, hVL, hCL] at R3
  rw [hVL] at hx1
  rw [hCL] at hx2
  rw [hA, hB, hVL, hCL]
  have HLA := Lib.hid hA
  have HVL := Lib.hid hVL
  clear hB hVL hCL
  have u0 := ((Ext.refl w).alloc (.cells #[y1] 33)).alloc (.cells #[.int .i64 A, .slice xa1 VL xm1, .slice xa2 CL xm2, .int .i64 B] 56)
  have b1 := (Box.new w 33 #[y1] rfl).alloc (.cells #[.int .i64 A, .slice xa1 VL xm1, .slice xa2 CL xm2, .int .i64 B] 56)
  have b2 := Box.new (w.alloc (.cells #[y1] 33)) 56 #[.int .i64 A, .slice xa1 VL xm1, .slice xa2 CL xm2, .int .i64 B] (b := w.heap.size + 1) (by simp)
  have R1 := Lib.hid (R1.out.ext u0)
  have R2 := Lib.hid (R2.out.ext u0)
  have R3 := Lib.hid (R3.out.ext u0)
  have c1 := b1.cell 0 (by simp)
  have d0 := b2.cell 0 (by simp)
  have d1 := b2.cell 1 (by simp)
  have d2 := b2.cell 2 (by simp)
  have d3 := b2.cell 3 (by simp)
  have hq0 : 0 ≤ (i : Int) / cntL (partL s t.vars) ∧ (i : Int) / cntL (partL s t.vars) < (levL T.par t.level).length := by
    have e : uCnt T.par s t = ((levL T.par t.level).length : Int) * cntL (partL s t.vars) := rfl
    exact ⟨Int.ediv_nonneg (by omega) (by omega), Int.ediv_lt_of_lt_mul (by omega) (by omega)⟩
  have hq1 : 0 ≤ (i : Int) % cntL (partL s t.vars) ∧ (i : Int) % cntL (partL s t.vars) < cntL (partL s t.vars) := ⟨Int.emod_nonneg _ (by omega), Int.emod_lt_of_pos _ (by omega)⟩
  have hu6 := hr.2.2.2.2
  have hbc := HBD.2
  have hl30 := HBD.1
  clear HBD hr
  have HAR : Hid (areaI T.par s t i = ix (levL T.par A) ((i : Int) / cntL (partL s t.vars)).toNat) := Lib.hid (by rw [← hA]; rfl)
  have HVS : Hid (valsI s t i = vlL (partL s t.vars) ((i : Int) % cntL (partL s t.vars))) := Lib.hid rfl
  rw [HVS.out]
  rw [hA] at hq0 hl30
  clear hA
  obtain ⟨U, hU⟩ : ∃ U, uCnt T.par s t = U := ⟨_, rfl⟩
  rw [hU] at hi hu6 hbc
  have HU := Lib.hid hU; clear hU
  have HLL := Lib.hid hq0.2
  obtain ⟨C, hC⟩ : ∃ C, cntL (partL s t.vars) = C := ⟨_, rfl⟩
  rw [hC] at HAR hq0 hq1 hbc HLL ⊢
  have HC := Lib.hid hC; clear hC
  obtain ⟨q, hq⟩ : ∃ q : Nat, (i : Int) / C = q := ⟨((i : Int) / C).toNat, by omega⟩
  obtain ⟨r, hrr⟩ : ∃ r : Nat, (i : Int) % C = r := ⟨((i : Int) % C).toNat, by omega⟩
  have hqt : Int.tdiv (i : Int) C = q := by rw [Int.tdiv_eq_ediv_of_nonneg (by omega)]; exact hq
  have hrt : Int.tmod (i : Int) C = r := by rw [Int.tmod_eq_emod_of_nonneg (by omega)]; exact hrr
  rw [hq] at HAR HLL hq0
  rw [hrr] at hq1 ⊢
  have eq1 : ((q : Int)).toNat = q := by omega
  rw [eq1] at HAR
  clear eq1
  rw [HAR.out]
  obtain ⟨AR, hAR⟩ : ∃ X, ix (levL T.par A) q = X := ⟨_, rfl⟩
  rw [hAR] at HAR ⊢
  have HA2 := Lib.hid hAR; clear hAR
  have hC0 : ¬ C = 0 := by omega
  have hU3 : IntKind.i64.wrap (U - 1) = U - 1 := IntWalk.i64_in _ (by omega)
  have HQ := Lib.hid (And.intro hq hrr)
  have hwq : IntKind.i64.wrap (q : Int) = q := IntWalk.i64_in _ (by omega)
  go_enter Try.func65, Try.ntmps65

  go_wp2_with fail
  refine (crossed_c _ _ s t _ R2.out R3.out HO.out.2.1 HO.out.2.2.1).mono ?_
  rintro e w8 ⟨z8, rfl, i8, u8⟩
  have I8 := Lib.hid i8
  obtain ⟨a8, c8, rfl, _, _, g8⟩ := i8
  clear g8
  obtain ⟨n8, hn8⟩ : ∃ n, (partL s t.vars).length = n := ⟨_, rfl⟩
  rw [hn8] at I8 ⊢
  clear hn8
  go_wp2_with fail
  refine (combinations_c _ _ _ I8.out HLV.out).mono ?_
  rw [HC.out]
  rintro e w9 ⟨rfl, u9⟩
  go_upto_region 3 with fail
  obtain ⟨wb, hwb⟩ : ∃ wb, wb = w9 := ⟨_, rfl⟩
  have ub := u8.trans u9
  rw [← hwb] at ub ⊢
  have u9' : Ext w8 wb := by rw [hwb]; exact u9
  clear hwb u9
  have c1 := Ext.cell ub c1
  have d0 := Ext.cell ub d0
  clear d1 d2 d3
  have X0 := (Ext.refl wb).drew
  go_region_with (first
      | (go_at_call 87; (with_reducible refine (areasAt_c _ T A _ (R1.out.ext (ub.trans X7.out)) HO.out.1).mono ?_); rintro e w6 ⟨z6, rfl, i6, u6⟩; obtain ⟨a6, c6, rfl, _, _, g6⟩ := i6; obtain ⟨b6, o6, rfl, hc6⟩ := g6 q (by have := HLL.out; omega); rw [HA2.out] at hc6; clear g6; have XE := Lib.hid (X7.out.trans u6); have I7 := Lib.hid (I7.out.ext u6))
      | (go_at_call 90; (with_reducible refine (valuesAt_c _ _ (r : Int) _ (I8.out.ext (u9'.trans X6.out)) HLV.out (by omega)).mono ?_); rintro e w7 ⟨z7, rfl, i7, u7⟩; have hc6 := Ext.cell u7 hc6; have I7 := Lib.hid i7; have XE := Lib.hid (X6.out.trans u7); obtain ⟨a7, c7, rfl, _, _, g7⟩ := i7; clear g7)
      | (go_at_call 90; (with_reducible refine (valuesAt_c _ _ (r : Int) _ (I8.out.ext (u9'.trans X0)) HLV.out (by omega)).mono ?_); rintro e w7 ⟨z7, rfl, i7, u7⟩; have I7 := Lib.hid i7; have X7 := Lib.hid (X0.trans u7); obtain ⟨a7, c7, rfl, _, _, g7⟩ := i7; clear g7; have c17 := Ext.cell X7.out c1; have d07 := Ext.cell X7.out d0)
      | (go_at_call 87; (with_reducible refine (areasAt_c _ T A _ (R1.out.ext (ub.trans X0)) HO.out.1).mono ?_); rintro e w6 ⟨z6, rfl, i6, u6⟩; obtain ⟨a6, c6, rfl, _, _, g6⟩ := i6; obtain ⟨b6, o6, rfl, hc6⟩ := g6 q (by have := HLL.out; omega); rw [HA2.out] at hc6; clear g6; have X6 := Lib.hid (X0.trans u6)))
  all_goals
    go_wp2
    go_ret2
    exact ⟨_, rfl, I7.out, u0.trans (ub.trans XE.out)⟩
end Go.Proofs.Ytolmmhdeebgglaa
