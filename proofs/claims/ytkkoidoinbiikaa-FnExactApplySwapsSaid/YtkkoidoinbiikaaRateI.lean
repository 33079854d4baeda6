/- SwapRate, the program's. -/
import Derived.Test.YtkkoidoinbiikaaRate
namespace Go.Proofs.Ytkkoidoinbiikaa
open Go.RowKit

theorem take_one_more {r : List Int} {j m : Nat} (hj : j < r.length) (h : ix r j = (m : Int)) (U : List Int) : U ++ r.take (j + 1) = (U ++ r.take j) ++ [(m : Int)] := by
  rw [take_succ_ix hj, h, List.append_assoc]
theorem pr_at {n : Nat} {r : List Int} (h : PrP n r) {j : Nat} (hj : j < r.length) : ∃ m : Nat, ix r j = (m : Int) ∧ m < n := by
  obtain ⟨p, q, er, hpq, hq⟩ := pair_eq h
  have hl : r.length = 2 := h.1
  by_cases e : j = 0
  · subst e; exact ⟨p, by rw [er]; rfl, by omega⟩
  · have : j = 1 := by omega
    subst this; exact ⟨q, by rw [er]; rfl, hq⟩

set_option maxRecDepth 100000 in
set_option maxHeartbeats 3200000 in
theorem implSwapRate_c (v1 : Value) (s : List Vr) (v2 : Value) (l : List Pe) (v3 : Value) (ps : List (List Int)) (w : World) (h1 : Vrs w v1 s) (h2 : Pes w v2 l) (h3 : Grid w v3 ps) (hw : WfV s) :
    Calls Try.prog 45 #[v1, v2, v3] w fun e w' => e = .returned (.tuple #[.agg #[.int .i64 (srN s l ps), .int .i64 (srD s l ps)], .bool (srB s l ps)]) ∧ Ext w w' := by
  have u0 := (Ext.refl w).alloc (.cells #[.int .i64 0, .int .i64 0] 64)
  have b0 := Box.new w 64 #[.int .i64 0, .int .i64 0] rfl
  have H1 := Lib.hid h1; clear h1
  have H2 := Lib.hid h2
  have H3 := Lib.hid h3
  have HW := Lib.hid hw; clear hw
  obtain ⟨a2, c2, rfl, e1, e2, g2⟩ := h2
  clear g2
  obtain ⟨a3, c3, rfl, e3, e4, g4⟩ := h3
  have G3 := Lib.hid g4; clear g4
  have HF : Hid (¬ SrP s l ps → srN s l ps = 0 ∧ srD s l ps = 0 ∧ srB s l ps = false) := Lib.hid (fun h => by simp [srN, srD, srB, h])
  have HT : Hid (SrP s l ps → srN s l ps = fVN (srC ps) l.length ∧ srD s l ps = fVD (srC ps) l.length ∧ srB s l ps = fB (srC ps) l.length) := Lib.hid (fun h => by simp [srN, srD, srB, h])
  obtain ⟨N, hN⟩ : ∃ N, srN s l ps = N := ⟨_, rfl⟩
  obtain ⟨D, hD⟩ : ∃ N, srD s l ps = N := ⟨_, rfl⟩
  obtain ⟨B, hB⟩ : ∃ N, srB s l ps = N := ⟨_, rfl⟩
  rw [hN, hD, hB] at HF HT ⊢
  clear hN hD hB
  cases hs : schB s
  · obtain ⟨q1, q2, q3⟩ := HF.out (fun h => by have := schB_true.2 h.1.1; rw [hs] at this; cases this)
    subst q1 q2 q3
    have HS := Lib.hid hs; clear hs HF HT
    go_enter Try.func45, Try.ntmps45
    go_wp2_with fail
    refine (IsSchema_b false _ s _ HS.out (H1.out.ext u0) HW.out).mono ?_
    rintro e w1 ⟨rfl, u1⟩
    have b1 := b0.ext u1
    have c0 := b1.cell 0 (by simp)
    have c1 := b1.cell 1 (by simp)
    have f0 := b1.free 0
    have f1 := b1.free 1
    have x1 := u0.trans u1
    go_wp2
    refine bodyPost_ret (v := .tuple #[.agg #[.int .i64 0, .int .i64 0], .bool false]) (by simp [results, Try.results45, go_sem, c0, c1]) rfl ⟨rfl, ?_⟩
    exact (x1.setCell _ (by simp)).setCell _ (by simp)
  have HS := Lib.hid hs
  have HSP := Lib.hid (schB_true.1 hs)
  clear hs
  cases hd : datB s l
  · obtain ⟨q1, q2, q3⟩ := HF.out (fun h => by have := datB_true.2 h.1.2; rw [hd] at this; cases this)
    subst q1 q2 q3
    have HD := Lib.hid hd; clear hd HF HT
    go_enter Try.func45, Try.ntmps45
    go_wp2_with fail
    refine (IsSchema_b true _ s _ HS.out (H1.out.ext u0) HW.out).mono ?_
    rintro e w1 ⟨rfl, u1⟩
    go_wp2_with fail
    refine (isData_b false _ _ s l _ HD.out (H1.out.ext (u0.trans u1)) (H2.out.ext (u0.trans u1))).mono ?_
    rintro e w2 ⟨rfl, u2⟩
    have b1 := (b0.ext u1).ext u2
    have c0 := b1.cell 0 (by simp)
    have c1 := b1.cell 1 (by simp)
    have f0 := b1.free 0
    have f1 := b1.free 1
    have x1 := (u0.trans u1).trans u2
    go_wp2
    refine bodyPost_ret (v := .tuple #[.agg #[.int .i64 0, .int .i64 0], .bool false]) (by simp [results, Try.results45, go_sem, c0, c1]) rfl ⟨rfl, ?_⟩
    exact (x1.setCell _ (by simp)).setCell _ (by simp)
  have HD := Lib.hid hd
  have HDP := Lib.hid (datB_true.1 hd)
  have h40 := HDP.out.1
  clear hd
  by_cases h0 : l.length = 0
  · obtain ⟨q1, q2, q3⟩ := HF.out (fun h => by have := h.2.2; omega)
    subst q1 q2 q3
    clear HF HT
    have hd : ((l.length : Int) == 0) = true := by rw [h0]; rfl
    clear h0
    go_enter Try.func45, Try.ntmps45
    go_wp2_with fail
    refine (IsSchema_b true _ s _ HS.out (H1.out.ext u0) HW.out).mono ?_
    rintro e w1 ⟨rfl, u1⟩
    go_wp2_with fail
    refine (isData_b true _ _ s l _ HD.out (H1.out.ext (u0.trans u1)) (H2.out.ext (u0.trans u1))).mono ?_
    rintro e w2 ⟨rfl, u2⟩
    have b1 := (b0.ext u1).ext u2
    have c0 := b1.cell 0 (by simp)
    have c1 := b1.cell 1 (by simp)
    have f0 := b1.free 0
    have f1 := b1.free 1
    have x1 := (u0.trans u1).trans u2
    go_wp2
    refine bodyPost_ret (v := .tuple #[.agg #[.int .i64 0, .int .i64 0], .bool false]) (by simp [results, Try.results45, go_sem, c0, c1]) rfl ⟨rfl, ?_⟩
    exact (x1.setCell _ (by simp)).setCell _ (by simp)
  have hd : ((l.length : Int) == 0) = false := by simp only [beq_eq_false_iff_ne]; omega
  cases hp : prsB l.length ps
  · obtain ⟨q1, q2, q3⟩ := HF.out (fun h => by have := prsB_true.2 h.2.1; rw [hp] at this; cases this)
    subst q1 q2 q3
    have HP := Lib.hid hp; clear hp HF HT
    go_enter Try.func45, Try.ntmps45
    go_wp2_with fail
    refine (IsSchema_b true _ s _ HS.out (H1.out.ext u0) HW.out).mono ?_
    rintro e w1 ⟨rfl, u1⟩
    go_wp2_with fail
    refine (isData_b true _ _ s l _ HD.out (H1.out.ext (u0.trans u1)) (H2.out.ext (u0.trans u1))).mono ?_
    rintro e w2 ⟨rfl, u2⟩
    go_wp2_with fail
    refine (arePairs_b false _ ps l.length _ HP.out (H3.out.ext ((u0.trans u1).trans u2))).mono ?_
    rintro e w3 ⟨rfl, d3⟩
    have u3 := Drew.ext d3
    have b1 := ((b0.ext u1).ext u2).ext u3
    have c0 := b1.cell 0 (by simp)
    have c1 := b1.cell 1 (by simp)
    have f0 := b1.free 0
    have f1 := b1.free 1
    have x1 := ((u0.trans u1).trans u2).trans u3
    go_wp2
    refine bodyPost_ret (v := .tuple #[.agg #[.int .i64 0, .int .i64 0], .bool false]) (by simp [results, Try.results45, go_sem, c0, c1]) rfl ⟨rfl, ?_⟩
    exact (x1.setCell _ (by simp)).setCell _ (by simp)
  have HP := Lib.hid hp
  have HPP := Lib.hid (prsB_true.1 hp)
  clear hp
  obtain ⟨q1, q2, q3⟩ := HT.out ⟨⟨HSP.out, HDP.out⟩, HPP.out, by omega⟩
  rw [q1, q2, q3]
  clear HF HT q1 q2 q3
  have h20 := HPP.out.1
  go_enter Try.func45, Try.ntmps45
  go_wp2_with fail
  refine (IsSchema_b true _ s _ HS.out (H1.out.ext u0) HW.out).mono ?_
  rintro e w1 ⟨rfl, u1⟩
  go_wp2_with fail
  refine (isData_b true _ _ s l _ HD.out (H1.out.ext (u0.trans u1)) (H2.out.ext (u0.trans u1))).mono ?_
  rintro e w2 ⟨rfl, u2⟩
  go_wp2_with fail
  refine (arePairs_b true _ ps l.length _ HP.out (H3.out.ext ((u0.trans u1).trans u2))).mono ?_
  rintro e w3 ⟨rfl, d3⟩
  have u3 := Drew.ext d3
  have x3 := ((u0.trans u1).trans u2).trans u3
  have b3 := ((b0.ext u1).ext u2).ext u3
  have HUS0 : Hid (Used (w3.alloc (.cells (Array.replicate 40 (.bool false)) 94)) w3.heap.size []) := Lib.hid (Used.new w3)
  go_wp2
  go_loopw [9, 38] (fun n i wr => ∃ k : Nat, k ≤ ps.length ∧ i = .int .i64 k ∧ n = .int .i64 ((putL (usedTo ps k)).length : Int) ∧ Used wr w3.heap.size (usedTo ps k) ∧ Ext w3 wr) (fun _ i _ => ps.length - (intOf i).toNat)
  case atStart => exact ⟨0, Nat.zero_le _, rfl, by rw [usedTo_zero]; rfl, by rw [usedTo_zero]; exact HUS0.out, (Ext.refl _).alloc _⟩
  case round =>
    clear HUS0
    obtain ⟨k, hk, rfl, rfl, hus, hx⟩ := hrel
    obtain ⟨wo, rfl⟩ : ∃ wo : World, wo = wr := ⟨_, rfl⟩
    have hul := len_putL_le (usedTo ps k)
    rw [usedTo_len HPP.out k hk] at hul
    have HUS := Lib.hid hus; clear hus
    have hxx := x3.trans hx
    by_cases hlt : k < ps.length
    · obtain ⟨b1, o1, ar, cr, rfl, hc, r1, r2, r3⟩ := (G3.out.ext x3).at_ hlt
      replace hc := Ext.cell hx hc
      have HPR := Lib.hid (HPP.out.2 k hlt)
      have HUE := Lib.hid (usedTo_succ hlt)
      have hul2 : (usedTo ps k).length ≤ 40 := by rw [usedTo_len HPP.out k hk]; omega
      obtain ⟨U, hU⟩ : ∃ U, usedTo ps k = U := ⟨_, rfl⟩
      rw [hU] at HUS HUE hul hul2 ⊢
      clear hU
      obtain ⟨r, hr⟩ : ∃ r, rowAt ps k = r := ⟨_, rfl⟩
      rw [hr] at hc r1 r3 HPR HUE
      clear hr
      have R3 := Lib.hid r3; clear r3
      have hr2 : r.length ≤ 2 := by have := HPR.out.1; omega
      go_wp2
      go_loopw [9, 44] (fun n i wr => ∃ j : Nat, j ≤ r.length ∧ i = .int .i64 j ∧ n = .int .i64 ((putL (U ++ r.take j)).length : Int) ∧ Used wr w3.heap.size (U ++ r.take j) ∧ Ext w3 wr) (fun _ i _ => r.length - (intOf i).toNat)
      case atStart => exact ⟨0, Nat.zero_le _, rfl, by simp, by simpa using HUS.out, hx⟩
      case round =>
        obtain ⟨j, hj, rfl, rfl, hus, hy⟩ := hrel
        obtain ⟨wi, rfl⟩ : ∃ wi : World, wi = wr := ⟨_, rfl⟩
        have hyy := x3.trans hy
        by_cases hjl : j < r.length
        · obtain ⟨m, em, hm⟩ := pr_at HPR.out hjl
          have HTE := Lib.hid (take_one_more hjl em U)
          obtain ⟨br, orr, rfl, hcr⟩ := R3.out j hjl
          rw [em] at hcr
          replace hcr := Ext.cell hy hcr
          have HUS2 := Lib.hid hus
          have g0 := hus.cell (i := m) (by omega)
          have g1 := hus.free m
          clear hus
          have i0 : (0 : Int) ≤ (m : Int) := by omega
          have i1 : (m : Int) < 40 := by omega
          obtain ⟨UJ, hUJ⟩ : ∃ x, U ++ r.take j = x := ⟨_, rfl⟩
          rw [hUJ] at HTE HUS2 g0 ⊢
          have hle := len_putL_le UJ
          have hjj : UJ.length ≤ 42 := by rw [← hUJ, List.length_append, List.length_take]; omega
          clear hUJ
          cases hm : hasI UJ (m : Int)
          · have HL := Lib.hid (len_putL_new hm)
            rw [hm] at g0
            clear hm
            go_wp2
            go_roundw
            case rel => exact ⟨j + 1, by omega, by go_num, by rw [HTE.out, HL.out]; go_num, by rw [HTE.out]; exact HUS2.out.set (by omega), hy.setCell _ (by simp)⟩
            case measure => simp [intOf]; omega
          · have HL := Lib.hid (len_putL_has hm)
            have HH := Lib.hid hm
            rw [hm] at g0
            clear hm
            go_wp2
            go_roundw
            case rel => exact ⟨j + 1, by omega, by go_num, by rw [HTE.out, HL.out], by rw [HTE.out]; exact HUS2.out.again HH.out, hy⟩
            case measure => simp [intOf]; omega
        · have hjj : r.take j = r := List.take_of_length_le (by omega)
          rw [hjj] at hus ⊢
          rw [← HUE.out] at hus ⊢
          have HUS2 := Lib.hid hus; clear hus
          clear hjj
          go_wp2
          go_roundw
          case rel => exact ⟨k + 1, by omega, by go_num, rfl, HUS2.out, hy⟩
          case measure => simp [intOf]; omega
    · have hkl : k = ps.length := by omega
      have HC : Hid ((putL (usedTo ps k)).length = srC ps) := Lib.hid (by rw [hkl]; rfl)
      clear hkl
      rw [HC.out] at hul ⊢
      have b4 := b3.ext hx
      go_wp2_with fail
      refine (reduced_c (srC ps) l.length _ (by omega) (by unfold InR; omega) (by unfold InR; omega)).mono ?_
      rintro e w4 ⟨rfl, u4⟩
      have b5 := b4.ext u4
      have c0 := b5.cell 0 (by simp)
      have c1 := b5.cell 1 (by simp)
      have f0 := b5.free 0
      have f1 := b5.free 1
      have x4 := hxx.trans u4
      go_wp2
      refine bodyPost_ret (v := .tuple #[.agg #[.int .i64 (fVN (srC ps) l.length), .int .i64 (fVD (srC ps) l.length)], .bool (fB (srC ps) l.length)]) (by simp [results, Try.results45, go_sem, c0, c1]) rfl ⟨rfl, ?_⟩
      exact (x4.setCell _ (by simp)).setCell _ (by simp)
end Go.Proofs.Ytkkoidoinbiikaa
