/- Where a cell of one table goes in another: the program's derived. -/
import Derived.Test.YtolmmhdeebgglaaDd
import Derived.Deep.CutRange
import Derived.Deep.CutBlock
import Derived.BigQuiet
namespace Go.Proofs.Ytolmmhdeebgglaa
open Go.RowKit

theorem bits_and1 {a : Int} (ha : 0 ≤ a ∧ a ≤ 255) : bits .and .i64 a 1 = a % 2 := by
  rw [bits_and ha, BitVec.toNat_and, bv_of ha]
  have h1 : (BitVec.ofInt 64 1).toNat = 1 := by decide
  rw [h1, Nat.and_one_is_mod]
  omega
theorem shr_range {a v : Int} (ha : 0 ≤ a ∧ a ≤ 255) : 0 ≤ a / 2 ^ v.toNat ∧ a / 2 ^ v.toNat ≤ 255 := by
  have hp : (0 : Int) < 2 ^ v.toNat := Int.pow_pos (by decide)
  refine ⟨Int.ediv_nonneg ha.1 (by omega), ?_⟩
  have := Int.ediv_le_self (2 ^ v.toNat) ha.1
  omega
theorem VarsP.at_ {u t : Ta} (h : VarsP t u) {k : Nat} (hk : k < t.vars.length) : ∃ j, j < u.vars.length ∧ ix u.vars j = ix t.vars k := by
  obtain ⟨x, hx, hn⟩ := List.any_eq_true.1 (h k hk)
  obtain ⟨j, hj, rfl⟩ := List.getElem_of_mem hx
  exact ⟨j, hj, by rw [ix_eq hj]; simpa using hn⟩
theorem ownL_found {n : Int} {tv vars vals : List Int} {m j : Nat} (hr : Rising n tv) (hj : j < tv.length) (he : ix tv j = ix vars m) {i : Nat} (hi : i < tv.length) :
    ix (ownL tv vars vals (m + 1)) i = if i = j then ix vals m else ix (ownL tv vars vals m) i := by
  rw [ix_ownL hi, ix_ownL hi]
  simp only [lookL]
  by_cases e : i = j
  · subst e; rw [if_pos he.symm, if_pos rfl]
  · rw [if_neg e, if_neg]
    intro e2
    rcases Nat.lt_or_gt_of_ne e with h | h
    · have := hr.lt h hj; omega
    · have := hr.lt h hi; omega
theorem ownL_none {tv vars vals : List Int} {m : Nat} (hn : ∀ j, j < tv.length → ix tv j ≠ ix vars m) {i : Nat} (hi : i < tv.length) : ix (ownL tv vars vals (m + 1)) i = ix (ownL tv vars vals m) i := by
  rw [ix_ownL hi, ix_ownL hi]
  simp only [lookL]
  rw [if_neg (fun e => hn i hi e.symm)]

set_option maxRecDepth 100000 in
set_option maxHeartbeats 6400000 in
theorem derived_c (v1 v2 v3 v4 v6 : Value) (T : Ge) (s : List Vr) (t u : Ta) (cells : List Int) (i : Nat) (w : World) (h1 : GeR w v1 T) (h2 : Vrs w v2 s) (h3 : TaR w v3 t) (h4 : TaR w v4 u) (h6 : Ints w v6 (valsI s u i)) (hd : DvOk T.par s t u cells) (hi : i < cells.length) :
    Calls Try.prog 66 #[v1, v2, v3, v4, .int .i64 (areaI T.par s u i), v6] w fun e w' => ((inI s t u i = true ∧ e = .returned (.tuple #[.int .i64 (keyI T.par s t u i), .int .i64 (timesI s t u i)])) ∨ (inI s t u i = false ∧ e = .returned (.tuple #[.int .i64 (-1), .int .i64 0]))) ∧ Ext w w' := by
  have HC := Lib.hid (hd.cell hi)
  have HD := Lib.hid hd; clear hd hi
  have R6 := Lib.hid h6
  obtain ⟨a6, c6, rfl, p6, q6, g6⟩ := h6
  clear g6
  have hvl := HC.out.vl
  obtain ⟨vals, hvals⟩ : ∃ v, valsI s u i = v := ⟨_, rfl⟩
  rw [hvals] at R6 p6 hvl ⊢
  have HV8 : Hid (∀ k, k < u.vars.length → 0 ≤ ix vals k ∧ ix vals k < 8) := Lib.hid (by rw [← hvals]; exact HC.out.v8)
  have HINI : Hid (inI s t u i = inTo s t u vals u.vars.length) := Lib.hid (by rw [← hvals]; rfl)
  have HTI : Hid (timesI s t u i = tmTo t u vals u.vars.length) := Lib.hid (by rw [← hvals]; rfl)
  have HOI : Hid (ownI s t u i = ownL t.vars u.vars vals u.vars.length) := Lib.hid (by rw [← hvals]; rfl)
  clear hvals
  rw [hvl] at p6 ⊢
  obtain ⟨av, ea, hal, had, b, eb, hbl, hbd, hbm⟩ := HC.out.area
  have HPL := Lib.hid HC.out.place
  have HUP : Hid (upI T.par s t u i = b) := Lib.hid (by unfold upI; rw [ea]; exact eb)
  rw [ea]
  have HEB : Hid (ancL T.par av t.level = b) := Lib.hid eb
  clear ea had hbl hbd hbm eb
  have R1 := Lib.hid h1
  have R2 := Lib.hid h2; clear h2
  have R3 := Lib.hid h3
  have R4 := Lib.hid h4
  obtain ⟨y1, rfl, i1⟩ := h1
  clear i1
  obtain ⟨xa31, xm31, xa32, xm32, rfl, hx31, hx32⟩ := h3.form
  clear h3
  obtain ⟨A3, hA3⟩ : ∃ A, t.level = A := ⟨_, rfl⟩
  obtain ⟨B3, hB3⟩ : ∃ B, t.sum = B := ⟨_, rfl⟩
  obtain ⟨VL3, hVL3⟩ : ∃ B, t.vars.length = B := ⟨_, rfl⟩
  obtain ⟨CL3, hCL3⟩ : ∃ B, t.cond.length = B := ⟨_, rfl⟩
  rw [hA3, hB3, hVL3, hCL3] at R3
  rw [hVL3] at hx31
  rw [hCL3] at hx32
  rw [hA3, hB3, hVL3, hCL3]
  have HLA3 := Lib.hid hA3
  have HLB3 := Lib.hid hB3
  have HVL3 := Lib.hid hVL3
  clear hA3 hB3 hVL3 hCL3
  obtain ⟨xa41, xm41, xa42, xm42, rfl, hx41, hx42⟩ := h4.form
  clear h4
  obtain ⟨A4, hA4⟩ : ∃ A, u.level = A := ⟨_, rfl⟩
  obtain ⟨B4, hB4⟩ : ∃ B, u.sum = B := ⟨_, rfl⟩
  obtain ⟨VL4, hVL4⟩ : ∃ B, u.vars.length = B := ⟨_, rfl⟩
  obtain ⟨CL4, hCL4⟩ : ∃ B, u.cond.length = B := ⟨_, rfl⟩
  rw [hA4, hB4, hVL4, hCL4] at R4
  rw [hVL4] at hx41
  rw [hCL4] at hx42
  rw [hA4, hB4, hVL4, hCL4]
  have HLA4 := Lib.hid hA4
  have HLB4 := Lib.hid hB4
  have HVL4 := Lib.hid hVL4
  clear hA4 hB4 hVL4 hCL4
  have u0 := (((Ext.refl w).alloc (.cells #[y1] 33)).alloc (.cells #[.int .i64 A3, .slice xa31 VL3 xm31, .slice xa32 CL3 xm32, .int .i64 B3] 56)).alloc (.cells #[.int .i64 A4, .slice xa41 VL4 xm41, .slice xa42 CL4 xm42, .int .i64 B4] 56)
  have b1 := ((Box.new w 33 #[y1] rfl).alloc (.cells #[.int .i64 A3, .slice xa31 VL3 xm31, .slice xa32 CL3 xm32, .int .i64 B3] 56)).alloc (.cells #[.int .i64 A4, .slice xa41 VL4 xm41, .slice xa42 CL4 xm42, .int .i64 B4] 56)
  have b3 := (Box.new (w.alloc (.cells #[y1] 33)) 56 #[.int .i64 A3, .slice xa31 VL3 xm31, .slice xa32 CL3 xm32, .int .i64 B3] (b := w.heap.size + 1) (by simp)).alloc (.cells #[.int .i64 A4, .slice xa41 VL4 xm41, .slice xa42 CL4 xm42, .int .i64 B4] 56)
  have b4 := Box.new ((w.alloc (.cells #[y1] 33)).alloc (.cells #[.int .i64 A3, .slice xa31 VL3 xm31, .slice xa32 CL3 xm32, .int .i64 B3] 56)) 56 #[.int .i64 A4, .slice xa41 VL4 xm41, .slice xa42 CL4 xm42, .int .i64 B4] (b := w.heap.size + 1 + 1) (by simp)
  have R1 := Lib.hid (R1.out.ext u0)
  have R2 := Lib.hid (R2.out.ext u0)
  have R3 := Lib.hid (R3.out.ext u0)
  have R4 := Lib.hid (R4.out.ext u0)
  obtain ⟨wq, hwq⟩ : ∃ wq, wq = ((w.alloc (.cells #[y1] 33)).alloc (.cells #[.int .i64 A3, .slice xa31 VL3 xm31, .slice xa32 CL3 xm32, .int .i64 B3] 56)).alloc (.cells #[.int .i64 A4, .slice xa41 VL4 xm41, .slice xa42 CL4 xm42, .int .i64 B4] 56) := ⟨_, rfl⟩
  rw [← hwq] at u0 b1 b3 b4 R1 R2 R3 R4
  have HWQ := Lib.hid hwq
  have hsq : Hid (wq.heap.size = w.heap.size + 1 + 1 + 1) := Lib.hid (by rw [hwq]; simp)
  clear hwq
  have I6 := Lib.hid (R6.out.ext u0)
  rw [HVL4.out] at p6 HV8
  rw [HLA3.out] at HEB
  have hvl4 : Hid (u.vars.length = VL4) := HVL4
  rw [HVL4.out] at hvl HINI HTI HOI
  have HVLS := Lib.hid hvl; clear hvl
  have hsl := HD.out.sch.1
  have hv3 : VL3 ≤ 6 := by have h := HD.out.ht.1.length (by omega); rw [HVL3.out] at h; omega
  have hv4 : VL4 ≤ 6 := by have h := HD.out.hu.1.length (by omega); rw [HVL4.out] at h; omega
  have hmk := run_make_row' (P := Try.prog) 22 3 (.int .i64 0) 8 Try.underlying22 info_int rfl .i64 .i64 VL3 (by omega) (by omega)
  have V4 := Lib.hid (R4.out.f1)
  have c1 := (b1).cell 0 (by simp)
  have d30 := (b3).cell 0 (by simp)
  have d31 := (b3).cell 1 (by simp)
  have d32 := (b3).cell 2 (by simp)
  have d33 := (b3).cell 3 (by simp)
  have d40 := (b4).cell 0 (by simp)
  have d41 := (b4).cell 1 (by simp)
  have d42 := (b4).cell 2 (by simp)
  have d43 := (b4).cell 3 (by simp)
  rw [HWQ.out] at c1 d30 d31 d32 d33 d40 d41 d42 d43
  have G4 : Hid (IntsA wq xa41 u.vars) := Lib.hid (by
    obtain ⟨a, c, e, _, _, g⟩ := V4.out
    simp only [Value.slice.injEq] at e
    obtain ⟨rfl, _, _⟩ := e
    exact g)
  have G6 : Hid (IntsA wq a6 vals) := Lib.hid (by
    obtain ⟨a, c, e, _, _, g⟩ := I6.out
    simp only [Value.slice.injEq] at e
    obtain ⟨rfl, _, _⟩ := e
    exact g)
  go_enter Try.func66, Try.ntmps66
  go_wp2_with fail
  rw [← HWQ.out]
  clear c1 d30 d31 d32 d33 d40 d41 d42 d43
  -- BEGIN cut loop
  go_loopw [14, 27] (fun x k wr => ∃ m : Nat, m ≤ VL4 ∧ k = .int .i64 m ∧ x = .int .i64 (tmTo t u vals m) ∧ inTo s t u vals m = true ∧ wr.rowIs wq.heap.size 3 VL3 (fun j => .int .i64 (ix (ownL t.vars u.vars vals m) j)) ∧ Ext wq wr) (fun _ k _ => VL4 - (intOf k).toNat)
  case atStart => exact ⟨0, Nat.zero_le _, rfl, rfl, rfl, (by rw [hsq.out]; have h := World.rowIs_made wq (.int .i64 0) VL3 3; rw [hsq.out] at h; exact h.congr (fun j hj => by rw [ix_ownL (by rw [HVL3.out]; exact hj)]; rfl)), (Ext.refl _).alloc _⟩
  case round =>
    clear hmk
    obtain ⟨m, hm, rfl, rfl, hin, hrow, hx⟩ := hrel
    obtain ⟨wo, rfl⟩ : ∃ wo : World, wo = wr := ⟨_, rfl⟩
    have HIN := Lib.hid hin; clear hin
    have HR := Lib.hid hrow; clear hrow
    by_cases hlt : m < VL4
    · obtain ⟨vi, evi, hvi⟩ : ∃ v : Nat, ix u.vars m = v ∧ v < s.length := by
        have h := (HD.out.hu.1 m (by rw [HVL4.out]; exact hlt)).1
        exact ⟨(ix u.vars m).toNat, by omega, by omega⟩
      obtain ⟨b4_, o4_, rfl, k4⟩ := G4.out m (by rw [HVL4.out]; exact hlt)
      obtain ⟨b6_, o6_, rfl, k6⟩ := G6.out m (by rw [HVLS.out]; exact hlt)
      have hx8 := HV8.out m hlt
      have HTM : Hid (tmTo t u vals (m + 1) = if t.sum = ix u.vars m ∧ u.sum = -1 then ix vals m else tmTo t u vals m) := Lib.hid rfl
      have HIT : Hid (inTo s t u vals (m + 1) = (inTo s t u vals m && decide (bitV (setV s t (ix u.vars m).toNat) (ix vals m) = 1))) := Lib.hid rfl
      have HOF := Lib.hid (fun (j : Nat) (hj : j < t.vars.length) (he : ix t.vars j = ix u.vars m) (i : Nat) (hi : i < t.vars.length) => ownL_found (vals := vals) (m := m) HD.out.ht.1 hj he hi)
      have HON := Lib.hid (fun (hn : ∀ j, j < t.vars.length → ix t.vars j ≠ ix u.vars m) (i : Nat) (hi : i < t.vars.length) => ownL_none (vals := vals) hn hi)
      rw [evi] at k4 HTM HIT HOF HON
      have evt : ((vi : Int)).toNat = vi := by omega
      rw [evt] at HIT
      clear evt
      have HEV := Lib.hid evi; clear evi
      obtain ⟨X, hX⟩ : ∃ X, ix vals m = X := ⟨_, rfl⟩
      rw [hX] at k6 hx8 HTM HIT HOF
      clear hX
      have hS := setV_range HD.out.sch HD.out.ht.2.1 hvi
      have hsr := shr_range (v := X) hS
      have hb1 := bits_and1 hsr
      have hb01 := bitV_01 (setV s t vi) X
      have hbv : bitV (setV s t vi) X = setV s t vi / 2 ^ X.toNat % 2 := rfl
      rw [← hbv] at hb1
      clear hbv
      obtain ⟨S, hSe⟩ : ∃ S, setV s t vi = S := ⟨_, rfl⟩
      rw [hSe] at hS hb01 hb1 HIT hsr
      have HS := Lib.hid hSe; clear hSe
      obtain ⟨SH, hSH⟩ : ∃ SH, S / 2 ^ X.toNat = SH := ⟨_, rfl⟩
      rw [hSH] at hb1 hsr
      obtain ⟨BT, hBT⟩ : ∃ b, bitV S X = b := ⟨_, rfl⟩
      rw [hBT] at hb01 hb1 HIT
      clear hBT
      have hmin : min X.toNat 64 = X.toNat := by omega
      have hX0 : (0 : Int) ≤ X := hx8.1

      have kk4 := Ext.cell hx k4
      clear k4
      have HC1 : Hid (∀ z : ExtOf wo, Calls Try.prog 75 #[v2, .agg #[.int .i64 A3, .slice xa31 VL3 xm31, .slice xa32 CL3 xm32, .int .i64 B3], .int .i64 vi] z.w fun e w' => e = .returned (.int .i64 S) ∧ Ext z.w w') := Lib.hid (fun z => by
        rw [← HS.out]
        exact conditionOf_c _ _ s t vi _ (R2.out.ext (hx.trans z.ext)) (R3.out.ext (hx.trans z.ext)) HD.out.sch HD.out.ht.2.1.1 hvi)
      have F0 : ∀ z : ExtOf wo, z.w.cell? ⟨w.heap.size + 1, 0, none⟩ = some (.int .i64 A3) := fun z => (b3.ext (hx.trans z.ext)).cell 0 (by simp)
      have F1 : ∀ z : ExtOf wo, z.w.cell? ⟨w.heap.size + 1, 1, none⟩ = some (.slice xa31 VL3 xm31) := fun z => (b3.ext (hx.trans z.ext)).cell 1 (by simp)
      have F2 : ∀ z : ExtOf wo, z.w.cell? ⟨w.heap.size + 1, 2, none⟩ = some (.slice xa32 CL3 xm32) := fun z => (b3.ext (hx.trans z.ext)).cell 2 (by simp)
      have F3 : ∀ z : ExtOf wo, z.w.cell? ⟨w.heap.size + 1, 3, none⟩ = some (.int .i64 B3) := fun z => (b3.ext (hx.trans z.ext)).cell 3 (by simp)
      have F6 : ∀ z : ExtOf wo, z.w.cell? ⟨b6_, o6_ + m, none⟩ = some (.int .i64 X) := fun z => Ext.cell (hx.trans z.ext) k6
      have hb6 : ¬ b6_ = w.heap.size + 1 + 1 + 1 := by have h := World.block_lt_of_cell? _ _ k6; have h2 := hsq.out; simp only at h; omega
      clear k6
      go_upto_region 6 with fail
      clear kk4
      rcases hb01 with hb0 | hb1'
      · have hq : (BT == 0) = true := by simp [hb0]
        have HIF : Hid (inI s t u i = false) := Lib.hid (by
          rw [HINI.out]
          refine inTo_stop (m := m + 1) _ (by omega) ?_
          rw [HIT.out, hb0]; simp)
        clear hb0 HIT HTM HOF HON
        refine wp_region_quiet_ext (by kernel_rfl) (by kernel_rfl) ?_
        repeat (go_big_quiet_step ((go_at_call 75; with_reducible exact calls_ext (HC1.out _))))
        refine wpQuiet_nil ?_
        intro ws hw'
        obtain ⟨⟨wz, us⟩, hw''⟩ := hw'
        subst hw''
        go_wp2
        go_ret2
        exact ⟨.inr ⟨HIF.out, rfl⟩, u0.trans (hx.trans us)⟩
      have hq : (BT == 0) = false := by simp [hb1']
      have HIN2 : Hid (inTo s t u vals (m + 1) = true) := Lib.hid (by rw [HIT.out, HIN.out, hb1']; simp)
      clear hb1' HIT
      refine wp_region_quiet_ext (by kernel_rfl) (by kernel_rfl) ?_
      repeat (go_big_quiet_step ((go_at_call 75; with_reducible exact calls_ext (HC1.out _))))
      refine wpQuiet_nil ?_
      intro ws hw'
      obtain ⟨⟨wz, us⟩, hw''⟩ := hw'
      subst hw''
      have k6 := F6 ⟨ws, us⟩
      clear F0 F1 F2 F3 F6 HC1 hb1 hsr hmin hSH hS hq
      have HU := Lib.hid (hx.trans us)
      have HR2 := Lib.hid (rowIs_ext HR.out us)
      have c1 := (b1.ext HU.out).cell 0 (by simp)
      have d30 := (b3.ext HU.out).cell 0 (by simp)
      have d31 := (b3.ext HU.out).cell 1 (by simp)
      have d32 := (b3.ext HU.out).cell 2 (by simp)
      have d33 := (b3.ext HU.out).cell 3 (by simp)
      have d40 := (b4.ext HU.out).cell 0 (by simp)
      have d41 := (b4.ext HU.out).cell 1 (by simp)
      have d42 := (b4.ext HU.out).cell 2 (by simp)
      have d43 := (b4.ext HU.out).cell 3 (by simp)
      by_cases hmem : ∃ j, j < t.vars.length ∧ ix t.vars j = (vi : Int)
      · obtain ⟨j, hj, hje⟩ := hmem
        have HJ : Hid (j < t.vars.length ∧ ix t.vars j = (vi : Int) ∧ ∀ k, k < j → ix t.vars k ≠ (vi : Int)) := Lib.hid ⟨hj, hje, fun k hk => by
          have := HD.out.ht.1.lt hk hj
          omega⟩
        have HOW := Lib.hid (fun k hk => HOF.out j hj hje k hk)
        have hj3 : j < VL3 := by rw [← HVL3.out]; exact hj
        clear hj hje HOF HON
        go_wp2_with fail
        refine (index_at _ t.vars (vi : Int) j _ ((R3.out.ext HU.out).f1) HJ.out).mono ?_
        rintro e w7 ⟨rfl, hw7⟩
        rw [hw7]
        clear hw7
        have kr := HR2.out.cell (i := j) hj3
        have kf := HR2.out.frozen j
        rw [hsq.out] at kr kf
        by_cases hs1 : B3 = (vi : Int)
        · have hq1 : (B3 == (vi : Int)) = true := by simp [hs1]
          by_cases hs2 : B4 = -1
          · have hq2 : (B4 == -1) = true := by simp [hs2]
            have HT2 : Hid (tmTo t u vals (m + 1) = X) := Lib.hid (by rw [HTM.out, HLB3.out, HLB4.out, if_pos ⟨hs1, hs2⟩])
            clear hs1 hs2
            go_wp2
            go_roundw
            case rel => exact ⟨m + 1, by omega, by go_num, by rw [HT2.out], HIN2.out, (by rw [hsq.out]; have h := HR2.out.set j (Value.int .i64 X); rw [hsq.out] at h; exact h.congr (fun k hk => by rw [HOW.out k (by rw [HVL3.out]; exact hk)]; by_cases e : k = j <;> simp [e])), HU.out.of_upd ((Upd.refl ws).setCell (S := fun b => b = wq.heap.size) _ (fun _ => by rw [hsq.out])) (fun b hb => by omega)⟩
            case measure => simp [intOf]; omega
          · have hq2 : (B4 == -1) = false := by simp [hs2]
            have HT2 : Hid (tmTo t u vals (m + 1) = tmTo t u vals m) := Lib.hid (by rw [HTM.out, HLB3.out, HLB4.out, if_neg (fun h => hs2 h.2)])
            clear hs1 hs2
            go_wp2
            go_roundw
            case rel => exact ⟨m + 1, by omega, by go_num, by rw [HT2.out], HIN2.out, (by rw [hsq.out]; have h := HR2.out.set j (Value.int .i64 X); rw [hsq.out] at h; exact h.congr (fun k hk => by rw [HOW.out k (by rw [HVL3.out]; exact hk)]; by_cases e : k = j <;> simp [e])), HU.out.of_upd ((Upd.refl ws).setCell (S := fun b => b = wq.heap.size) _ (fun _ => by rw [hsq.out])) (fun b hb => by omega)⟩
            case measure => simp [intOf]; omega
        · have hq1 : (B3 == (vi : Int)) = false := by simp [hs1]
          have HT2 : Hid (tmTo t u vals (m + 1) = tmTo t u vals m) := Lib.hid (by rw [HTM.out, HLB3.out, HLB4.out, if_neg (fun h => hs1 h.1)])
          clear hs1
          go_wp2
          go_roundw
          case rel => exact ⟨m + 1, by omega, by go_num, by rw [HT2.out], HIN2.out, (by rw [hsq.out]; have h := HR2.out.set j (Value.int .i64 X); rw [hsq.out] at h; exact h.congr (fun k hk => by rw [HOW.out k (by rw [HVL3.out]; exact hk)]; by_cases e : k = j <;> simp [e])), HU.out.of_upd ((Upd.refl ws).setCell (S := fun b => b = wq.heap.size) _ (fun _ => by rw [hsq.out])) (fun b hb => by omega)⟩
          case measure => simp [intOf]; omega
      · have HNM : Hid (∀ j, j < t.vars.length → ix t.vars j ≠ (vi : Int)) := Lib.hid (fun j hj e => hmem ⟨j, hj, e⟩)
        have HOW := Lib.hid (fun k hk => HON.out HNM.out k hk)
        clear hmem HOF HON
        go_wp2_with fail
        refine (index_none _ t.vars (vi : Int) _ ((R3.out.ext HU.out).f1) HNM.out).mono ?_
        rintro e w7 ⟨rfl, hw7⟩
        rw [hw7]
        clear hw7
        by_cases hs1 : B3 = (vi : Int)
        · have hq1 : (B3 == (vi : Int)) = true := by simp [hs1]
          by_cases hs2 : B4 = -1
          · have hq2 : (B4 == -1) = true := by simp [hs2]
            have HT2 : Hid (tmTo t u vals (m + 1) = X) := Lib.hid (by rw [HTM.out, HLB3.out, HLB4.out, if_pos ⟨hs1, hs2⟩])
            clear hs1 hs2
            go_wp2
            go_roundw
            case rel => exact ⟨m + 1, by omega, by go_num, by rw [HT2.out], HIN2.out, HR2.out.congr (fun k hk => by rw [HOW.out k (by rw [HVL3.out]; exact hk)]), HU.out⟩
            case measure => simp [intOf]; omega
          · have hq2 : (B4 == -1) = false := by simp [hs2]
            have HT2 : Hid (tmTo t u vals (m + 1) = tmTo t u vals m) := Lib.hid (by rw [HTM.out, HLB3.out, HLB4.out, if_neg (fun h => hs2 h.2)])
            clear hs1 hs2
            go_wp2
            go_roundw
            case rel => exact ⟨m + 1, by omega, by go_num, by rw [HT2.out], HIN2.out, HR2.out.congr (fun k hk => by rw [HOW.out k (by rw [HVL3.out]; exact hk)]), HU.out⟩
            case measure => simp [intOf]; omega
        · have hq1 : (B3 == (vi : Int)) = false := by simp [hs1]
          have HT2 : Hid (tmTo t u vals (m + 1) = tmTo t u vals m) := Lib.hid (by rw [HTM.out, HLB3.out, HLB4.out, if_neg (fun h => hs1 h.1)])
          clear hs1
          go_wp2
          go_roundw
          case rel => exact ⟨m + 1, by omega, by go_num, by rw [HT2.out], HIN2.out, HR2.out.congr (fun k hk => by rw [HOW.out k (by rw [HVL3.out]; exact hk)]), HU.out⟩
          case measure => simp [intOf]; omega
    · have hml : m = VL4 := by omega
      have HML := Lib.hid hml; clear hml
      have HU := Lib.hid hx
      have c1 := (b1.ext HU.out).cell 0 (by simp)
      have d30 := (b3.ext HU.out).cell 0 (by simp)
      have d31 := (b3.ext HU.out).cell 1 (by simp)
      have d32 := (b3.ext HU.out).cell 2 (by simp)
      have d33 := (b3.ext HU.out).cell 3 (by simp)
      have d40 := (b4.ext HU.out).cell 0 (by simp)
      have d41 := (b4.ext HU.out).cell 1 (by simp)
      have d42 := (b4.ext HU.out).cell 2 (by simp)
      have d43 := (b4.ext HU.out).cell 3 (by simp)
      have HIT2 : Hid (inI s t u i = true) := Lib.hid (by rw [HINI.out, ← HML.out]; exact HIN.out)
      have HTT : Hid (timesI s t u i = tmTo t u vals m) := Lib.hid (by rw [HTI.out, ← HML.out])
      have HOO : Hid (Ints wo (.slice (some ⟨wq.heap.size, 0, none⟩) VL3 VL3) (ownI s t u i)) := Lib.hid (by
        have h := (Own.of_rowIs (lo := 0) (hi := wo.heap.size) (xs := ownI s t u i) HR.out (by rw [HOI.out, ownL_len]; exact HVL3.out) (fun j hj => by rw [HOI.out, ← HML.out]) (Nat.zero_le _) HR.out.lt (by omega)).ints
        exact h)
      have hb0 : ¬ ((b : Int) < 0) := by omega
      go_wp2_with fail
      refine (ancestorAt_c _ T av A3 _ (R1.out.ext hx) HD.out.geo hal).mono ?_
      rw [HEB.out]
      rintro e w7 ⟨rfl, u7⟩
      have HU7 := Lib.hid (hx.trans u7)
      clear c1 d30 d31 d32 d33 d40 d41 d42 d43 HU
      have HU := HU7
      have c1 := (b1.ext HU.out).cell 0 (by simp)
      have d30 := (b3.ext HU.out).cell 0 (by simp)
      have d31 := (b3.ext HU.out).cell 1 (by simp)
      have d32 := (b3.ext HU.out).cell 2 (by simp)
      have d33 := (b3.ext HU.out).cell 3 (by simp)
      have d40 := (b4.ext HU.out).cell 0 (by simp)
      have d41 := (b4.ext HU.out).cell 1 (by simp)
      have d42 := (b4.ext HU.out).cell 2 (by simp)
      have d43 := (b4.ext HU.out).cell 3 (by simp)
      rw [hsq.out] at HOO
      go_wp2_with fail
      refine (cellIndex_c _ _ _ _ T s t b (placeI T.par s t u i) (ownI s t u i) _ (R1.out.ext HU7.out) (R2.out.ext HU7.out) (R3.out.ext HU7.out) (HOO.out.ext u7) HD.out.geo HD.out.sch HD.out.ht HC.out.fitT ⟨HPL.out.1, by rw [HPL.out.2.1]; exact HUP.out⟩).mono ?_
      rintro e w8 ⟨rfl, u8⟩
      go_wp2
      go_ret2
      refine ⟨.inl ⟨HIT2.out, ?_⟩, u0.trans (HU7.out.trans u8)⟩
      rw [HTT.out]
      rfl
  -- END cut loop
end Go.Proofs.Ytolmmhdeebgglaa
