/- ExpBounds, the spec's: the walk. -/
import Derived.Test.YtmhofeljieicaaaExpS
namespace Go.Proofs.Ytmhofeljieicaaa
open Go.RowKit

theorem sub_zero_frac {n d : Int} (h : goodF n d = true) : fVN (0 * d - n * 1) (1 * d) = -n ∧ fVD (0 * d - n * 1) (1 * d) = d ∧ fB (0 * d - n * 1) (1 * d) = true := by
  have e1 : 0 * d - n * 1 = -n := by omega
  have e2 : 1 * d = d := by omega
  rw [e1, e2]
  have := f_good (goodF_neg h)
  exact ⟨this.2.2.2.1, this.2.2.2.2, this.2.2.1⟩
set_option maxRecDepth 100000 in
set_option maxHeartbeats 12800000 in
theorem specExp_c (n d k : Int) (w : World) :
    Calls Try.prog 15 #[.agg #[.int .i64 n, .int .i64 d], .int .i64 k] w fun e w' => e = .returned (.tuple #[.agg #[.int .i64 (xbR n d k).1.1, .int .i64 (xbR n d k).1.2], .agg #[.int .i64 (xbR n d k).2.1, .int .i64 (xbR n d k).2.2], .bool (xbB n d k)]) ∧ Ext w w' := by
  have u0 := (((Ext.refl w).alloc (.cells #[.int .i64 n, .int .i64 d] 24)).alloc (.cells #[.int .i64 0, .int .i64 0] 24)).alloc (.cells #[.int .i64 0, .int .i64 0] 24)
  have b2 := ((Box.new w 24 #[.int .i64 n, .int .i64 d] rfl).alloc (.cells #[.int .i64 0, .int .i64 0] 24)).alloc (.cells #[.int .i64 0, .int .i64 0] 24)
  have b4 := (Box.new (w.alloc (.cells #[.int .i64 n, .int .i64 d] 24)) 24 #[.int .i64 0, .int .i64 0] (b := w.heap.size + 1) (by simp)).alloc (.cells #[.int .i64 0, .int .i64 0] 24)
  have b5 := Box.new ((w.alloc (.cells #[.int .i64 n, .int .i64 d] 24)).alloc (.cells #[.int .i64 0, .int .i64 0] 24)) 24 #[.int .i64 0, .int .i64 0] (b := w.heap.size + 2) (by simp)
  cases hc : (goodF n d && (decide (0 ≤ n) && decide (n ≤ d)))
  · have HRZ := Lib.hid (xb_none (n := n) (d := d) (k := k) (by simp [xbO, xOk, hc]))
    have HC := Lib.hid hc; clear hc
    go_enter Try.func15, Try.ntmps15
    go_wp2_with fail
    refine (kUnit_b false n d _ HC.out).mono ?_
    rintro e w1 ⟨rfl, u1⟩
    have y4 := b4.ext u1
    have y5 := b5.ext u1
    have hux := u0.trans u1
    have e40 := y4.cell 0 (by simp)
    have e41 := y4.cell 1 (by simp)
    have e50 := y5.cell 0 (by simp)
    have e51 := y5.cell 1 (by simp)
    have f0 := y4.free 0
    have f1 := y4.free 1
    have f2 := y5.free 0
    have f3 := y5.free 1
    go_wp2
    refine bodyPost_ret (v := .tuple #[.agg #[.int .i64 0, .int .i64 0], .agg #[.int .i64 0, .int .i64 0], .bool false]) (by simp [results, Try.results15, go_sem, e40, e41, e50, e51]) rfl ⟨by rw [HRZ.out.1, HRZ.out.2], ?_⟩
    exact (((hux.setCell _ (by simp)).setCell _ (by simp)).setCell _ (by simp; omega)).setCell _ (by simp; omega)
  cases hk : (decide (1 ≤ k) && decide (k ≤ 6))
  · have HRZ := Lib.hid (xb_none (n := n) (d := d) (k := k) (by simp [xbO, xOk, hk]))
    have HC := Lib.hid hc; clear hc
    have HK := Lib.hid hk; clear hk
    go_enter Try.func15, Try.ntmps15
    go_wp2_with fail
    refine (kUnit_b true n d _ HC.out).mono ?_
    rintro e w1 ⟨rfl, u1⟩
    go_wp2_with fail
    refine (l1In_b false k 1 6 _ HK.out).mono ?_
    rintro e w' ⟨rfl, rfl⟩
    have y4 := b4.ext u1
    have y5 := b5.ext u1
    have hux := u0.trans u1
    have e40 := y4.cell 0 (by simp)
    have e41 := y4.cell 1 (by simp)
    have e50 := y5.cell 0 (by simp)
    have e51 := y5.cell 1 (by simp)
    have f0 := y4.free 0
    have f1 := y4.free 1
    have f2 := y5.free 0
    have f3 := y5.free 1
    go_wp2
    refine bodyPost_ret (v := .tuple #[.agg #[.int .i64 0, .int .i64 0], .agg #[.int .i64 0, .int .i64 0], .bool false]) (by simp [results, Try.results15, go_sem, e40, e41, e50, e51]) rfl ⟨by rw [HRZ.out.1, HRZ.out.2], ?_⟩
    exact (((hux.setCell _ (by simp)).setCell _ (by simp)).setCell _ (by simp; omega)).setCell _ (by simp; omega)
  have hk' : 1 ≤ k ∧ k ≤ 6 := by simpa using hk
  obtain ⟨K, rfl⟩ : ∃ K : Nat, k = K := ⟨k.toNat, by omega⟩
  have hK1 : 1 ≤ K := by omega
  have hK6 : K ≤ 6 := by omega
  have hx : xOk n d K = true := by simp only [xOk, hc]; simp; omega
  have hgn := Bool.and_eq_true_iff.1 hc
  have hnd : 0 ≤ n ∧ n ≤ d := by simpa using hgn.2
  have HGN := Lib.hid hgn.1
  obtain ⟨gb1, gb2, gb3, gb4, _⟩ := goodF_bounds hgn.1
  have HC := Lib.hid hc; clear hc hgn
  have HKK := Lib.hid hk; clear hk hk'
  have HNEG := Lib.hid (goodF_neg HGN.out)
  obtain ⟨R, hR⟩ : ∃ R, xbR n d K = R := ⟨_, rfl⟩
  obtain ⟨RB, hRB⟩ : ∃ R, xbB n d K = R := ⟨_, rfl⟩
  rw [hR, hRB]
  have HRN : Hid (eSum n d (2 * K) = none → R = ((0, 0), (0, 0)) ∧ RB = false) := Lib.hid (fun h => by
    rw [← hR, ← hRB]; exact xb_none (by unfold xbO; rw [if_pos hx, Int.toNat_natCast, h]))
  have HRS : Hid (∀ l s, eSum n d (2 * K) = some s → eSum n d (2 * K - 1) = some l → R = (l, s) ∧ RB = true) := Lib.hid (fun l s h1 h2 => by
    rw [← hR, ← hRB]; exact xb_some (by unfold xbO; rw [if_pos hx, Int.toNat_natCast, h1, h2]; rfl))
  clear hR hRB hx
  have kw1 : IntKind.i64.wrap (2 * (K : Int)) = 2 * (K : Int) := IntWalk.i64_in _ (by omega)
  have kw2 : IntKind.i64.wrap (2 * (K : Int) - 1) = 2 * (K : Int) - 1 := IntWalk.i64_in _ (by omega)
  have HSB := Lib.hid (sub_zero_frac HGN.out)
  have HG01 := Lib.hid (goodF_int (n := 0) (by omega))
  go_enter Try.func15, Try.ntmps15
  go_wp2_with fail
  refine (kUnit_b true n d _ HC.out).mono ?_
  rintro e w1 ⟨rfl, u1⟩
  go_wp2_with fail
  refine (l1In_b true (K : Int) 1 6 _ HKK.out).mono ?_
  rintro e w' ⟨rfl, rfl⟩
  have x2 := b2.ext u1
  have x4 := b4.ext u1
  have x5 := b5.ext u1
  have ux := u0.trans u1
  have sw1 := u1.size
  simp at sw1
  clear b2 b4 b5 u0 u1
  obtain ⟨wa, hwa⟩ : ∃ wa, wa = w' := ⟨_, rfl⟩
  rw [← hwa] at x2 x4 x5 ux sw1 ⊢
  clear hwa
  go_wp2_with fail
  refine (fInt_c 1 _).mono ?_
  rintro e w2 ⟨rfl, u2⟩
  go_wp2_with fail
  refine (fInt_c 1 _).mono ?_
  rintro e w3 ⟨rfl, u3⟩
  go_wp2_with fail
  refine (fInt_c 0 _).mono ?_
  rintro e w4 ⟨rfl, u4⟩
  have ua := ((u2.trans u3).alloc (.cells #[.int .i64 1, .int .i64 1] 24)).alloc (.cells #[.int .i64 1, .int .i64 1] 24)
  have sa := (u2.trans u3).size
  have b7 := (((Box.new w3 24 #[.int .i64 1, .int .i64 1] rfl).alloc (.cells #[.int .i64 1, .int .i64 1] 24)).ext u4).alloc (.cells #[.int .i64 0, .int .i64 1] 24)
  have b8 := ((Box.new (w3.alloc (.cells #[.int .i64 1, .int .i64 1] 24)) 24 #[.int .i64 1, .int .i64 1] (b := w3.heap.size + 1) (by simp)).ext u4).alloc (.cells #[.int .i64 0, .int .i64 1] 24)
  have b9 := Box.new w4 24 #[.int .i64 0, .int .i64 1] rfl
  have s4 : w3.heap.size + 2 ≤ w4.heap.size := by have := u4.size; simp at this; omega
  have uq := (ua.trans u4).alloc (.cells #[.int .i64 0, .int .i64 1] 24)
  obtain ⟨wq, hwq⟩ : ∃ wq, w4.alloc (.cells #[.int .i64 0, .int .i64 1] 24) = wq := ⟨_, rfl⟩
  have HSQ : Hid (wq.heap.size = w4.heap.size + 1) := Lib.hid (by rw [← hwq]; simp)
  rw [hwq] at b7 b8 b9 uq
  clear ua u2 u3 u4
  have y2 := x2.ext uq
  have e20 := y2.cell 0 (by simp)
  have e21 := y2.cell 1 (by simp)
  have hMK : ∀ x, Ext wq x → (Ext wq x ∧ x.cell? ⟨w.heap.size, 0, none⟩ = some (.int .i64 n) ∧ x.cell? ⟨w.heap.size, 1, none⟩ = some (.int .i64 d)) := fun x e => ⟨e, e.cell e20, e.cell e21⟩
  have MK := Lib.hid hMK; clear hMK
  go_upto_region 5 with fail
  try rw [hwq]
  clear hwq
  go_cut [10, 11] from 13 to 84 (fun s10 s11 wx => ∃ B : Nat, s10 = .pointer (some ⟨B, 0, none⟩) ∧ s11 = .bool true ∧ wq.heap.size ≤ B ∧ Box wx B 24 #[.int .i64 (-n), .int .i64 d] ∧ Ext wq wx)
  case first =>
    go_region_held3 (fun x => Ext wq x ∧ x.cell? ⟨w.heap.size, 0, none⟩ = some (.int .i64 n) ∧ x.cell? ⟨w.heap.size, 1, none⟩ = some (.int .i64 d))
      (first | exact MK.out _ (Ext.refl _).drew | exact MK.out _ (Ext.trans (show Ext wq _ from And.left (by assumption)) u7) | exact MK.out _ (Ext.trans (show Ext wq _ from And.left (by assumption)) u6) | exact MK.out _ (((Ext.refl _).alloc _).drew) | exact MK.out _ ((((Ext.refl _).drew.trans u6).trans u7).alloc _) | exact MK.out _ (((Ext.refl _).drew.trans u6).alloc _) | exact MK.out _ ((((((Ext.refl _).drew.trans u6).alloc _).trans u7).of_upd (put2 ((Box.new w6 24 #[.int .i64 0, .int .i64 0] rfl).ext u7) _ _).2 (fun b hb => by have := u6.size; simp at this; omega))) | exact MK.out _ ((((((Ext.refl _).alloc _).drew.trans u6)).trans u7).of_upd (put2 ((((Box.new wq 24 #[.int .i64 0, .int .i64 0] rfl).drew).ext u6).ext u7) _ _).2 (fun b hb => by omega)))
      ((first
        | (go_at_call 28; (with_reducible refine (fInt_c 0 _).mono ?_); rintro e w6 ⟨rfl, u6⟩)
        | (go_at_call 29; (with_reducible refine (fSub_y 0 1 n d _ HG01.out HGN.out).mono ?_); rw [HSB.out.1, HSB.out.2.1, HSB.out.2.2]; rintro e w7 ⟨rfl, u7⟩; try (first | (have bz := (Box.new w6 24 #[.int .i64 0, .int .i64 0] rfl).ext u7; have bf0 := bz.free 0; have bf1 := bz.free 1; have bc0 := bz.cell 0 (by simp); have bc1 := bz.cell 1 (by simp); clear bz) | (have bz := (((Box.new wq 24 #[.int .i64 0, .int .i64 0] rfl).drew).ext u6).ext u7; have bf0 := bz.free 0; have bf1 := bz.free 1; have bc0 := bz.cell 0 (by simp); have bc1 := bz.cell 1 (by simp); clear bz)))))
    · have hx := (((Ext.refl wq).drew.trans u6).trans u7)
      have hs := hx.size
      have hb := Box.new w7 24 #[.int .i64 (-n), .int .i64 d] rfl
      have HA := Lib.hid (And.intro hb (hx.alloc (.cells #[.int .i64 (-n), .int .i64 d] 24))); clear hb hx
      go_wp2_with fail
      go_meet
      exact ⟨w7.heap.size, rfl, rfl, hs, HA.out.1, HA.out.2⟩
    · have hy := (Ext.refl wq).drew.trans u6
      have hs := hy.size
      have hp := put2 ((Box.new w6 24 #[.int .i64 0, .int .i64 0] rfl).ext u7) (.int .i64 (-n)) (.int .i64 d)
      have hx := ((hy.alloc (.cells #[.int .i64 0, .int .i64 0] 24)).trans u7).of_upd hp.2 (fun b hb => by omega)
      have HA := Lib.hid (And.intro hp.1 hx); clear hp hx hy
      go_wp2_with fail
      go_meet
      exact ⟨w6.heap.size, rfl, rfl, hs, HA.out.1, HA.out.2⟩
    · have hp := put2 ((((Box.new wq 24 #[.int .i64 0, .int .i64 0] rfl).drew).ext u6).ext u7) (.int .i64 (-n)) (.int .i64 d)
      have hx := (((((Ext.refl wq).alloc (.cells #[.int .i64 0, .int .i64 0] 24)).drew).trans u6).trans u7).of_upd hp.2 (fun b hb => by omega)
      have HA := Lib.hid (And.intro hp.1 hx); clear hp hx
      go_wp2_with fail
      go_meet
      exact ⟨wq.heap.size, rfl, rfl, Nat.le_refl _, HA.out.1, HA.out.2⟩
  case rest =>
    obtain ⟨B, rfl, rfl, hB, hb10, hxc⟩ := hcut
    have sq := HSQ.out
    obtain ⟨wr0, rfl⟩ : ∃ wr0 : World, wr0 = wc := ⟨_, rfl⟩
    clear e20 e21 y2 MK
    have b7' := b7.ext hxc
    have b8' := b8.ext hxc
    have b9' := b9.ext hxc
    clear b7 b8 b9
    have x4' := x4.ext (uq.trans hxc)
    have x5' := x5.ext (uq.trans hxc)
    have ux' := ux.trans (uq.trans hxc)
    have t0 := term_zero (n := n) (d := d)
    have hsz : w3.heap.size + 2 ≤ w4.heap.size := s4
    have hw03 : w.heap.size + 3 ≤ w3.heap.size := by omega
    have hl10 := hb10.lt
    go_wp2
    go_loopw [12] (fun v wr => ∃ (i : Nat) (l s : Int × Int), i ≤ 2 * K ∧ v = .int .i64 ((i : Int) + 1) ∧ eSum n d i = some s ∧ (2 * K - 1 ≤ i → eSum n d (2 * K - 1) = some l) ∧ Box wr w3.heap.size 24 #[.int .i64 s.1, .int .i64 s.2] ∧ Box wr (w3.heap.size + 1) 24 #[.int .i64 (tN n d i), .int .i64 (tD n d i)] ∧ Box wr w4.heap.size 24 #[.int .i64 l.1, .int .i64 l.2] ∧ Box wr B 24 #[.int .i64 (-n), .int .i64 d] ∧ Upd (fun z => z = w3.heap.size ∨ z = w3.heap.size + 1 ∨ z = w4.heap.size) wr0 wr) (fun v _ => 2 * K + 1 - (intOf v).toNat)
    case atStart => exact ⟨0, (0, 1), (1, 1), Nat.zero_le _, rfl, rfl, fun h => by omega, b7', by rw [t0.1, t0.2.1]; exact b8', b9', hb10, Upd.refl _⟩
    case round =>
      clear b7' b8' b9' hb10
      obtain ⟨i, l, s, hi, rfl, hes, hel, h7, h8, h9, h10, hU⟩ := hrel
      obtain ⟨wo, rfl⟩ : ∃ wo : World, wo = wr := ⟨_, rfl⟩
      have HES := Lib.hid hes
      have HEL := Lib.hid hel; clear hel
      obtain ⟨s1, s2⟩ := s
      obtain ⟨l1, l2⟩ := l
      have HSG := Lib.hid (eSum_good gb1 _ _ _ hes); clear hes
      have HTM := Lib.hid (eSum_terms _ _ HES.out i (Nat.le_refl _))
      have z4 := x4'.upd hU (by omega)
      have z5 := x5'.upd hU (by omega)
      have hxo : Ext w wo := ux'.of_upd hU (fun b hb => by omega)
      have hso := hU.size
      have hsw := hxo.size
      by_cases hlt : i < 2 * K
      case neg =>
        have hiK : i = 2 * K := by omega
        have HRR := Lib.hid (HRS.out _ _ (by rw [← hiK]; exact HES.out) (HEL.out (by omega)))
        have e70 := h7.cell 0 (by simp)
        have e71 := h7.cell 1 (by simp)
        have e90 := h9.cell 0 (by simp)
        have e91 := h9.cell 1 (by simp)
        have e40 := z4.cell 0 (by simp)
        have e41 := z4.cell 1 (by simp)
        have e50 := z5.cell 0 (by simp)
        have e51 := z5.cell 1 (by simp)
        have f0 := z4.free 0
        have f1 := z4.free 1
        have f2 := z5.free 0
        have f3 := z5.free 1
        have hni : ¬ ((i : Int) + 1 ≤ 2 * (K : Int)) := by omega
        clear h7 h8 h9 h10 hiK
        go_wp2_with fail
        go_region
        go_wp2
        refine bodyPost_ret (v := .tuple #[.agg #[.int .i64 l1, .int .i64 l2], .agg #[.int .i64 s1, .int .i64 s2], .bool true]) (by simp [results, Try.results15, go_sem, e40, e41, e50, e51]) rfl ⟨by rw [HRR.out.1, HRR.out.2], ?_⟩
        exact ((((hxo.setCell _ (by simp)).setCell _ (by simp)).setCell _ (by simp; omega)).setCell _ (by simp; omega)).drew
      have hpi : (i : Int) + 1 ≤ 2 * (K : Int) := by omega
      have wi2 : IntKind.i64.wrap ((i : Int) + 1 + 1) = (i : Int) + 1 + 1 := IntWalk.i64_in _ (by omega)
      have HTG := Lib.hid (term_good gb1 HTM.out).1
      have HYY := Lib.hid (yy_of_term gb1 HTM.out)
      have HI1 := Lib.hid (goodF_int (n := (i : Int) + 1) (by omega))
      obtain ⟨A, hA⟩ : ∃ A, tN n d i = A := ⟨_, rfl⟩
      obtain ⟨Bt, hBt⟩ : ∃ A, tD n d i = A := ⟨_, rfl⟩
      rw [hA, hBt] at HTG HYY h8
      clear hA hBt
      have e80 := h8.cell 0 (by simp)
      have e81 := h8.cell 1 (by simp)
      have e100 := h10.cell 0 (by simp)
      have e101 := h10.cell 1 (by simp)
      go_wp2_with fail
      refine (fMul_y A Bt (-n) d _ HTG.out HNEG.out).mono ?_
      rw [HYY.out.1, HYY.out.2.1, HYY.out.2.2]
      rintro e w5 ⟨rfl, u5⟩
      clear e80 e81 e100 e101
      obtain ⟨Y1, hY1⟩ : ∃ A, fVN (pwI (-n) (i + 1)) (pwI d (i + 1) * facI i) = A := ⟨_, rfl⟩
      obtain ⟨Y2, hY2⟩ : ∃ A, fVD (pwI (-n) (i + 1)) (pwI d (i + 1) * facI i) = A := ⟨_, rfl⟩
      obtain ⟨YB, hYB⟩ : ∃ A, fB (pwI (-n) (i + 1)) (pwI d (i + 1) * facI i) = A := ⟨_, rfl⟩
      rw [hY1, hY2, hYB]
      have hyq : pwI d (i + 1) * facI i ≠ 0 := by
        have := Int.mul_pos (show 0 < pwI d (i + 1) by have := pwI_pos gb1 (i + 1); omega) (show 0 < facI i by have := facI_pos i; omega)
        omega
      -- what the quotient is
      have HZ : Hid (∃ Z1 Z2 ZB, (∀ z : World, Calls Try.prog 23 #[.agg #[.int .i64 Y1, .int .i64 Y2], .agg #[.int .i64 ((i : Int) + 1), .int .i64 1]] z fun e z' => e = .returned (.tuple #[.agg #[.int .i64 Z1, .int .i64 Z2], .bool ZB]) ∧ Ext z z') ∧
          ((YB && ZB) = fB (tmN n (i + 1)) (tmD d (i + 1))) ∧ ((YB && ZB) = true → Z1 = tN n d (i + 1) ∧ Z2 = tD n d (i + 1))) := Lib.hid (by
        cases hyb : YB
        · rw [hyb] at hYB
          have v1 : Y1 = 0 := by rw [← hY1]; unfold fVN; rw [hYB]; rfl
          have v2 : Y2 = 0 := by rw [← hY2]; unfold fVD; rw [hYB]; rfl
          refine ⟨0, 0, false, fun z => by rw [v1, v2]; exact fDiv_z _ z (by omega), ?_, fun h => by cases h⟩
          cases ht : fB (tmN n (i + 1)) (tmD d (i + 1))
          · rfl
          · have := yy_ok hnd.1 hnd.2 gb1 ht; rw [hYB] at this; cases this
        · rw [hyb] at hYB
          obtain ⟨g1, g2, g3⟩ := f_val hyq hYB
          have hg : goodF Y1 Y2 = true := by rw [← hY1, ← hY2]; exact g3
          have hr : pwI (-n) (i + 1) * Y2 = Y1 * (pwI d (i + 1) * facI i) := by rw [← hY1, ← hY2, g1, g2]; exact (fN_pos hyq).2.2
          have ht := term_of_yy gb1 (goodF_bounds hg).1 hr
          refine ⟨tN n d (i + 1), tD n d (i + 1), fB (tmN n (i + 1)) (tmD d (i + 1)), fun z => ?_, by simp, fun _ => ⟨rfl, rfl⟩⟩
          have := fDiv_y Y1 Y2 ((i : Int) + 1) 1 z hg HI1.out (by omega)
          rw [ht.1, ht.2.1, ht.2.2] at this
          exact this)
      clear hyq hY1 hY2 hYB
      obtain ⟨Z1, Z2, ZB, hZc, hZb, hZv⟩ := HZ.out
      have HZC := Lib.hid hZc; clear hZc
      have HZB := Lib.hid hZb; clear hZb
      have HZV := Lib.hid hZv; clear hZv HZ
      have b13 := Box.new w5 24 #[.int .i64 Y1, .int .i64 Y2] rfl
      have ub := u5.alloc (.cells #[.int .i64 Y1, .int .i64 Y2] 24)
      obtain ⟨wp, hwp⟩ : ∃ wp, w5.alloc (.cells #[.int .i64 Y1, .int .i64 Y2] 24) = wp := ⟨_, rfl⟩
      have s5 := u5.size
      have HSP : Hid (wp.heap.size = w5.heap.size + 1) := Lib.hid (by rw [← hwp]; simp)
      rw [hwp] at b13 ub
      have e130 := b13.cell 0 (by simp)
      have e131 := b13.cell 1 (by simp)
      have hMK : ∀ x, Ext wp x → (Ext wp x ∧ x.cell? ⟨w5.heap.size, 0, none⟩ = some (.int .i64 Y1) ∧ x.cell? ⟨w5.heap.size, 1, none⟩ = some (.int .i64 Y2)) := fun x e => ⟨e, e.cell e130, e.cell e131⟩
      have MK := Lib.hid hMK; clear hMK
      go_upto_region 10 with fail
      try rw [hwp]
      clear hwp
      go_cut [15, 16] from 44 to 82 (fun s15 s16 wx => ∃ C : Nat, s15 = .pointer (some ⟨C, 0, none⟩) ∧ s16 = .bool ZB ∧ wp.heap.size ≤ C ∧ Box wx C 24 #[.int .i64 Z1, .int .i64 Z2] ∧ Ext wp wx)
      case first =>
        go_region_held3 (fun x => Ext wp x ∧ x.cell? ⟨w5.heap.size, 0, none⟩ = some (.int .i64 Y1) ∧ x.cell? ⟨w5.heap.size, 1, none⟩ = some (.int .i64 Y2))
          (first | exact MK.out _ (Ext.refl _).drew | exact MK.out _ (Ext.trans (show Ext wp _ from And.left (by assumption)) u7) | exact MK.out _ (Ext.trans (show Ext wp _ from And.left (by assumption)) u6) | exact MK.out _ (((Ext.refl _).alloc _).drew) | exact MK.out _ ((((Ext.refl _).drew.trans u6).trans u7).alloc _) | exact MK.out _ (((Ext.refl _).drew.trans u6).alloc _) | exact MK.out _ ((((((Ext.refl _).drew.trans u6).alloc _).trans u7).of_upd (put2 ((Box.new w6 24 #[.int .i64 0, .int .i64 0] rfl).ext u7) _ _).2 (fun b hb => by have := u6.size; simp at this; omega))) | exact MK.out _ ((((((Ext.refl _).alloc _).drew.trans u6)).trans u7).of_upd (put2 ((((Box.new wp 24 #[.int .i64 0, .int .i64 0] rfl).drew).ext u6).ext u7) _ _).2 (fun b hb => by omega)))
          ((first
            | (go_at_call 28; (with_reducible refine (fInt_c ((i : Int) + 1) _).mono ?_); rintro e w6 ⟨rfl, u6⟩)
            | (go_at_call 23; (with_reducible refine (HZC.out _).mono ?_); rintro e w7 ⟨rfl, u7⟩; try (first | (have bz := (Box.new w6 24 #[.int .i64 0, .int .i64 0] rfl).ext u7; have bf0 := bz.free 0; have bf1 := bz.free 1; have bc0 := bz.cell 0 (by simp); have bc1 := bz.cell 1 (by simp); clear bz) | (have bz := (((Box.new wp 24 #[.int .i64 0, .int .i64 0] rfl).drew).ext u6).ext u7; have bf0 := bz.free 0; have bf1 := bz.free 1; have bc0 := bz.cell 0 (by simp); have bc1 := bz.cell 1 (by simp); clear bz)))))
        · have hx := (((Ext.refl wp).drew.trans u6).trans u7)
          have hs := hx.size
          have hb := Box.new w7 24 #[.int .i64 Z1, .int .i64 Z2] rfl
          have HA := Lib.hid (And.intro hb (hx.alloc (.cells #[.int .i64 Z1, .int .i64 Z2] 24))); clear hb hx
          go_wp2_with fail
          go_meet
          exact ⟨w7.heap.size, rfl, rfl, hs, HA.out.1, HA.out.2⟩
        · have hy := (Ext.refl wp).drew.trans u6
          have hs := hy.size
          have hp := put2 ((Box.new w6 24 #[.int .i64 0, .int .i64 0] rfl).ext u7) (.int .i64 Z1) (.int .i64 Z2)
          have hx := ((hy.alloc (.cells #[.int .i64 0, .int .i64 0] 24)).trans u7).of_upd hp.2 (fun b hb => by omega)
          have HA := Lib.hid (And.intro hp.1 hx); clear hp hx hy
          go_wp2_with fail
          go_meet
          exact ⟨w6.heap.size, rfl, rfl, hs, HA.out.1, HA.out.2⟩
        · have hp := put2 ((((Box.new wp 24 #[.int .i64 0, .int .i64 0] rfl).drew).ext u6).ext u7) (.int .i64 Z1) (.int .i64 Z2)
          have hx := (((((Ext.refl wp).alloc (.cells #[.int .i64 0, .int .i64 0] 24)).drew).trans u6).trans u7).of_upd hp.2 (fun b hb => by omega)
          have HA := Lib.hid (And.intro hp.1 hx); clear hp hx
          go_wp2_with fail
          go_meet
          exact ⟨wp.heap.size, rfl, rfl, Nat.le_refl _, HA.out.1, HA.out.2⟩
      case rest =>
        obtain ⟨C, rfl, rfl, hC, hb15, hxp⟩ := hcut
        have sp := HSP.out
        obtain ⟨wx, rfl⟩ : ∃ wx : World, wx = wc := ⟨_, rfl⟩
        clear MK e130 e131 b13
        have uo : Ext wo wx := ub.trans hxp
        have r4 := z4.ext uo
        have r5 := z5.ext uo
        have r7 := h7.ext uo
        have r8 := h8.ext uo
        have r9 := h9.ext uo
        have r10 := h10.ext uo
        have hUx := hU.trans (uo.upd (S := fun z => z = w3.heap.size ∨ z = w3.heap.size + 1 ∨ z = w4.heap.size))
        have hl7 := h7.lt
        have hl8 := h8.lt
        have hl9 := h9.lt
        have hl10 := h10.lt
        clear h7 h8 h9 h10 ub hxp u5
        cases ht : (YB && ZB)
        · have HRZ := Lib.hid (HRN.out (eSum_stop (i := i + 1) (by omega) (by rw [← HZB.out]; exact ht)))
          have hux := hxo.trans uo
          have y4 := r4
          have y5 := r5
          have e40 := y4.cell 0 (by simp)
          have e41 := y4.cell 1 (by simp)
          have e50 := y5.cell 0 (by simp)
          have e51 := y5.cell 1 (by simp)
          have f0 := y4.free 0
          have f1 := y4.free 1
          have f2 := y5.free 0
          have f3 := y5.free 1
          cases YB
          · clear ht
            go_wp2
            refine bodyPost_ret (v := .tuple #[.agg #[.int .i64 0, .int .i64 0], .agg #[.int .i64 0, .int .i64 0], .bool false]) (by simp [results, Try.results15, go_sem, e40, e41, e50, e51]) rfl ⟨by rw [HRZ.out.1, HRZ.out.2], ?_⟩
            exact (((hux.setCell _ (by simp)).setCell _ (by simp)).setCell _ (by simp; omega)).setCell _ (by simp; omega)
          · rw [Bool.true_and] at ht
            subst ht
            go_wp2
            refine bodyPost_ret (v := .tuple #[.agg #[.int .i64 0, .int .i64 0], .agg #[.int .i64 0, .int .i64 0], .bool false]) (by simp [results, Try.results15, go_sem, e40, e41, e50, e51]) rfl ⟨by rw [HRZ.out.1, HRZ.out.2], ?_⟩
            exact (((hux.setCell _ (by simp)).setCell _ (by simp)).setCell _ (by simp; omega)).setCell _ (by simp; omega)
        obtain ⟨rfl, rfl⟩ := HZV.out ht
        have HTB : Hid (fB (tmN n (i + 1)) (tmD d (i + 1)) = true) := Lib.hid (by rw [← HZB.out]; exact ht)
        obtain ⟨rfl, rfl⟩ := Bool.and_eq_true_iff.1 ht
        clear ht HZV HZB HZC
        have HT2 := Lib.hid (term_good gb1 HTB.out).1
        have hES1 : eSum n d (i + 1) = if fB (s1 * tD n d (i + 1) + tN n d (i + 1) * s2) (s2 * tD n d (i + 1)) = true then some (fVN (s1 * tD n d (i + 1) + tN n d (i + 1) * s2) (s2 * tD n d (i + 1)), fVD (s1 * tD n d (i + 1) + tN n d (i + 1) * s2) (s2 * tD n d (i + 1))) else none := by
          rw [eSum, HES.out]; simp only [HTB.out, if_true]
        have HAB : Hid (∃ A' B', tN n d (i + 1) = A' ∧ tD n d (i + 1) = B') := Lib.hid ⟨_, _, rfl, rfl⟩
        obtain ⟨A', B', hA', hB'⟩ := HAB.out
        have HA' := Lib.hid (And.intro hA' hB')
        rw [hA', hB'] at hES1 HT2 hb15
        clear hA' hB' HAB
        have HES1 := Lib.hid hES1; clear hES1
        have e150 := hb15.cell 0 (by simp)
        have e151 := hb15.cell 1 (by simp)
        have p8 := put2 r8 (.int .i64 A') (.int .i64 B')
        have f80 := r8.free 0
        have f81 := r8.free 1
        have e80 := r8.cell 0 (by simp)
        have e81 := r8.cell 1 (by simp)
        obtain ⟨wy, hwy⟩ : ∃ wy, (wx.setCell ⟨w3.heap.size + 1, 0, none⟩ (.int .i64 A')).setCell ⟨w3.heap.size + 1, 1, none⟩ (.int .i64 B') = wy := ⟨_, rfl⟩
        rw [hwy] at p8
        have q8 := p8.1
        have q7 := r7.upd p8.2 (by omega)
        have q9 := r9.upd p8.2 (by omega)
        have q10 := r10.upd p8.2 (by omega)
        have q4 := r4.upd p8.2 (by omega)
        have q5 := r5.upd p8.2 (by omega)
        have hUy := hUx.trans (p8.2.mono (fun b _ hb => .inr (.inl hb)))
        have g70 := q7.cell 0 (by simp)
        have g71 := q7.cell 1 (by simp)
        have g80 := q8.cell 0 (by simp)
        have g81 := q8.cell 1 (by simp)
        clear r7 r8 r9 r10 p8
        go_wp2_with fail
        try rw [hwy]
        clear hwy
        refine (fAdd_y s1 s2 A' B' _ HSG.out HT2.out).mono ?_
        rintro e w8 ⟨rfl, u8⟩
        clear e80 e81 f80 f81 e150 e151 g70 g71 g80 g81 hb15
        obtain ⟨C1, hC1⟩ : ∃ A, fVN (s1 * B' + A' * s2) (s2 * B') = A := ⟨_, rfl⟩
        obtain ⟨C2, hC2⟩ : ∃ A, fVD (s1 * B' + A' * s2) (s2 * B') = A := ⟨_, rfl⟩
        rw [hC1, hC2] at HES1 ⊢
        clear hC1 hC2
        have s8 := u8.size
        have s9 := hUy.size
        have uc := u8.alloc (.cells #[.int .i64 C1, .int .i64 C2] 24)
        cases hs : fB (s1 * B' + A' * s2) (s2 * B')
        · have HRZ := Lib.hid (HRN.out (eSum_none (i := i + 1) (by rw [HES1.out, hs]; rfl) (2 * K) (by omega)))
          clear hs
          have y4 := q4.ext uc
          have y5 := q5.ext uc
          have hux : Ext w (w8.alloc (.cells #[.int .i64 C1, .int .i64 C2] 24)) := (ux'.of_upd hUy (fun b hb => by omega)).trans uc
          have e40 := y4.cell 0 (by simp)
          have e41 := y4.cell 1 (by simp)
          have e50 := y5.cell 0 (by simp)
          have e51 := y5.cell 1 (by simp)
          have f0 := y4.free 0
          have f1 := y4.free 1
          have f2 := y5.free 0
          have f3 := y5.free 1
          go_wp2
          refine bodyPost_ret (v := .tuple #[.agg #[.int .i64 0, .int .i64 0], .agg #[.int .i64 0, .int .i64 0], .bool false]) (by simp [results, Try.results15, go_sem, e40, e41, e50, e51]) rfl ⟨by rw [HRZ.out.1, HRZ.out.2], ?_⟩
          exact (((hux.setCell _ (by simp)).setCell _ (by simp)).setCell _ (by simp; omega)).setCell _ (by simp; omega)
        have HEN : Hid (eSum n d (i + 1) = some (C1, C2)) := Lib.hid (by rw [HES1.out, hs]; rfl)
        clear hs
        have b17 := Box.new w8 24 #[.int .i64 C1, .int .i64 C2] rfl
        obtain ⟨wz, hwz⟩ : ∃ wz, w8.alloc (.cells #[.int .i64 C1, .int .i64 C2] 24) = wz := ⟨_, rfl⟩
        rw [hwz] at uc b17
        have v7 := q7.ext uc
        have v8 := (q8.ext uc)
        have v9 := q9.ext uc
        have v10 := q10.ext uc
        have p7 := put2 v7 (.int .i64 C1) (.int .i64 C2)
        have f70 := v7.free 0
        have f71 := v7.free 1
        have e70 := v7.cell 0 (by simp)
        have e71 := v7.cell 1 (by simp)
        have e170 := b17.cell 0 (by simp)
        have e171 := b17.cell 1 (by simp)
        obtain ⟨wt, hwt⟩ : ∃ wt, (wz.setCell ⟨w3.heap.size, 0, none⟩ (.int .i64 C1)).setCell ⟨w3.heap.size, 1, none⟩ (.int .i64 C2) = wt := ⟨_, rfl⟩
        rw [hwt] at p7
        have m7 := p7.1
        have m8 := v8.upd p7.2 (by omega)
        have m9 := v9.upd p7.2 (by omega)
        have m10 := v10.upd p7.2 (by omega)
        have hUt := (hUy.trans (uc.upd (S := fun z => z = w3.heap.size ∨ z = w3.heap.size + 1 ∨ z = w4.heap.size))).trans (p7.2.mono (fun b _ hb => .inl hb))
        clear v7 v8 v9 v10 p7 q7 q8 q9 q10
        have M8 : Hid (Box wt (w3.heap.size + 1) 24 #[.int .i64 (tN n d (i + 1)), .int .i64 (tD n d (i + 1))]) := Lib.hid (by rw [HA'.out.1, HA'.out.2]; exact m8)
        clear m8
        have n70 := m7.cell 0 (by simp)
        have n71 := m7.cell 1 (by simp)
        by_cases hj : (i : Int) + 1 = 2 * (K : Int) - 1
        · have HEK : Hid (eSum n d (2 * K - 1) = some (C1, C2)) := Lib.hid (by
            have e : 2 * K - 1 = i + 1 := by omega
            rw [e]; exact HEN.out)
          have heq : ((i : Int) + 1 == 2 * (K : Int) - 1) = true := by rw [hj]; simp
          have p9 := put2 m9 (.int .i64 C1) (.int .i64 C2)
          have f90 := m9.free 0
          have f91 := m9.free 1
          have e90 := m9.cell 0 (by simp)
          have e91 := m9.cell 1 (by simp)
          have l7 := m7.upd p9.2 (by omega)
          have l8 := Lib.hid (M8.out.upd p9.2 (by omega))
          have l10 := m10.upd p9.2 (by omega)
          have hUl := hUt.trans (p9.2.mono (fun b _ hb => .inr (.inr hb)))
          clear m7 m9 m10 hj
          go_wp2
          try rw [hwz, hwt]
          go_roundw
          case rel => exact ⟨i + 1, (C1, C2), (C1, C2), by omega, by go_num, HEN.out, fun _ => HEK.out, l7, l8.out, p9.1, l10, hUl⟩
          case measure => simp [intOf]; omega
        · have HEK : Hid (2 * K - 1 ≤ i + 1 → eSum n d (2 * K - 1) = some (l1, l2)) := Lib.hid (fun h => HEL.out (by omega))
          have heq : ((i : Int) + 1 == 2 * (K : Int) - 1) = false := by simp [hj]
          clear hj
          go_wp2
          go_roundw
          case rel => exact ⟨i + 1, (l1, l2), (C1, C2), by omega, by go_num, HEN.out, HEK.out, m7, M8.out, m9, m10, hUt⟩
          case measure => simp [intOf]; omega
end Go.Proofs.Ytmhofeljieicaaa
