/- The least and the greatest value of an element, the spec's: tLow, tHigh, tRange (printed by gen/mksrange.py). -/
import Derived.Test.YtodnkahnbidgaaaLowP
namespace Go.Proofs.Ytodnkahnbidgaaa
open Go.RowKit
open Fm

set_option maxRecDepth 100000 in
set_option maxHeartbeats 3200000 in
theorem tLow_c (T : Tr) (a0 a1 a2 a3 : Option Addr) (c0 c1 c2 c3 n m i j : Nat) (w : World) (hn : T.rows.length = n) (hm : T.cols.length = m) (h : TrR w (.agg #[.slice a0 n c0, .slice a1 m c1, .slice a2 n c2, .slice a3 n c3]) T) (ho : TrOk T) (hi' : i < n) (hj' : j < m) (hf : ∃ x, Flow (NetT T) x) :
    Calls Try.prog 69 #[.agg #[.slice a0 n c0, .slice a1 m c1, .slice a2 n c2, .slice a3 n c3], .int .i64 i, .int .i64 j] w fun e w' => e = .returned (.int .i64 (lowV T i j)) ∧ Ext w w' := by
  have H := Lib.hid h; clear h
  have HO := Lib.hid ho; clear ho
  have HF := Lib.hid hf; clear hf
  have hd := HO.out.dims
  have d2 : n ≤ 8 := by rw [← hn]; exact hd.2.1
  have d4 : m ≤ 8 := by rw [← hm]; exact hd.2.2.2.1
  clear hd
  have u0 := (Ext.refl w).alloc (.cells #[.slice a0 n c0, .slice a1 m c1, .slice a2 n c2, .slice a3 n c3] 38)
  have b0 := Box.new w 38 #[.slice a0 n c0, .slice a1 m c1, .slice a2 n c2, .slice a3 n c3] rfl
  have k0 := b0.cell 0 (by simp)
  have k1 := b0.cell 1 (by simp)
  have k2 := b0.cell 2 (by simp)
  have k3 := b0.cell 3 (by simp)
  have iT : i < T.rows.length := by rw [hn]; exact hi'
  have jT : j < T.cols.length := by rw [hm]; exact hj'
  have hce := HO.out.el iT jT
  obtain ⟨_, _, e9, _, _, gl⟩ := H.out.f2.ext u0
  simp only [Value.slice.injEq] at e9
  obtain ⟨rfl, e8, rfl⟩ := e9
  clear e8
  obtain ⟨bl, ol, al, cl, rfl, hcl, l1_, l2_, l3_⟩ := gl.at_ (k := i) (by rw [HO.out.rcLo.len]; exact iT)
  obtain ⟨b6, o6, rfl, hx6⟩ := l3_ j (by rw [HO.out.rcLo.row i iT]; exact jT)
  rw [HO.out.rcLo.row i iT, hm] at hcl l1_
  clear l3_ gl
  obtain ⟨_, _, e9, _, _, gh⟩ := H.out.f3.ext u0
  simp only [Value.slice.injEq] at e9
  obtain ⟨rfl, e8, rfl⟩ := e9
  clear e8
  obtain ⟨bh, oh, ah, ch, rfl, hch, h1_, h2_, h3_⟩ := gh.at_ (k := i) (by rw [HO.out.rcHi.len]; exact iT)
  obtain ⟨b7, o7, rfl, hx7⟩ := h3_ j (by rw [HO.out.rcHi.row i iT]; exact jT)
  rw [HO.out.rcHi.row i iT, hm] at hch h1_
  clear h3_ gh
  have q7 : ix (rowAt T.hi i) j = elOf T.hi i j := rfl
  have q6 : ix (rowAt T.lo i) j = elOf T.lo i j := rfl
  rw [q7] at hx7
  rw [q6] at hx6
  clear q6 q7
  obtain ⟨L, hL⟩ : ∃ L, elOf T.lo i j = L := ⟨_, rfl⟩
  obtain ⟨U, hU⟩ : ∃ U, elOf T.hi i j = U := ⟨_, rfl⟩
  rw [hL] at hx6 hce
  rw [hU] at hx7 hce
  have HL := Lib.hid hL; clear hL
  have HU := Lib.hid hU; clear hU
  have HN := Lib.hid hn; clear hn
  have HM := Lib.hid hm; clear hm
  have HIT := Lib.hid iT; clear iT
  have HJT := Lib.hid jT; clear jT
  obtain ⟨ws, hws⟩ : ∃ ws, w.alloc (.cells #[.slice a0 n c0, .slice a1 m c1, .slice (some ⟨bl, ol, none⟩) n c2, .slice (some ⟨bh, oh, none⟩) n c3] 38) = ws := ⟨_, rfl⟩
  rw [hws] at u0 b0 k0 k1 k2 k3 hcl hx6 hch hx7
  have HWS := Lib.hid hws; clear hws
  go_enter Try.func69, Try.ntmps69
  go_wp2_with fail
  rw [HWS.out]
  go_quiet (fail)
  have x0 : Ext ws (ws.drewN nq) := (Ext.refl ws).drewN nq
  go_wp2
  go_loopw [7, 8] (fun l h wr => ∃ (lo hi : Int), l = .int .i64 lo ∧ h = .int .i64 hi ∧ L ≤ lo ∧ lo ≤ hi ∧ hi ≤ U ∧ (∃ x, Flow (NetT T) x ∧ x i j ≤ hi) ∧ (∀ x, Flow (NetT T) x → lo ≤ x i j) ∧ Ext ws wr) (fun l h _ => (intOf h - intOf l).toNat)
  case atStart => exact ⟨L, U, rfl, rfl, Int.le_refl _, hce.2.1, Int.le_refl _, ⟨HF.out.choose, HF.out.choose_spec, by have h9 : HF.out.choose i j ≤ elOf T.hi i j := HF.out.choose_spec.hi i j HIT.out HJT.out; rw [HU.out] at h9; exact h9⟩, fun x hx => by have h9 : elOf T.lo i j ≤ x i j := hx.lo i j HIT.out HJT.out; rw [HL.out] at h9; exact h9, x0⟩
  case round =>
    obtain ⟨lo, hi, rfl, rfl, e1, e2, e3, hex, hal, hx⟩ := hrel
    obtain ⟨wo, rfl⟩ : ∃ wo : World, wo = wr := ⟨_, rfl⟩
    have HEX := Lib.hid hex; clear hex
    have HAL := Lib.hid hal; clear hal
    have bo := b0.ext hx
    have y0 := bo.cell 0 (by simp)
    have y1 := bo.cell 1 (by simp)
    have y2 := bo.cell 2 (by simp)
    have y3 := bo.cell 3 (by simp)
    have y6 := Ext.cell hx hx6
    have y7 := Ext.cell hx hx7
    have yl := Ext.cell hx hcl
    have yh := Ext.cell hx hch
    have x1 := u0.trans hx
    by_cases hlt : lo < hi
    · obtain ⟨M, hM⟩ : ∃ M, (lo + hi) / 2 = M := ⟨_, rfl⟩
      have hMb : lo ≤ M ∧ M ≤ hi ∧ M < hi := by omega
      have HMM := Lib.hid hM
      have hok := Lib.hid (withT_ok HO.out HIT.out HJT.out (a := L) (b := M) (by omega))
      have hfl := Lib.hid (flow_withT HO.out HIT.out HJT.out (a := L) (b := M) (by rw [HL.out]; omega) (by rw [HU.out]; omega))
      cases hfe : feasB (withT T i j L M)
      all_goals
        have HFE := Lib.hid hfe; clear hfe
        go_wp2_with fail
      · rw [HMM.out]; clear hM
        go_region_held3 (fun x => x.cell? ⟨w.heap.size, 0, none⟩ = some (.slice a0 n c0) ∧ x.cell? ⟨w.heap.size, 1, none⟩ = some (.slice a1 m c1) ∧ x.cell? ⟨w.heap.size, 2, none⟩ = some (.slice (some ⟨bl, ol, none⟩) n c2) ∧ x.cell? ⟨w.heap.size, 3, none⟩ = some (.slice (some ⟨bh, oh, none⟩) n c3) ∧ x.cell? ⟨bl, ol + i, none⟩ = some (.slice (some ⟨b6, o6, none⟩) m cl) ∧ x.cell? ⟨b6, o6 + j, none⟩ = some (.int .i64 L))
          (first | exact ⟨Ext.cell u6 (Ext.cell u5 y0), Ext.cell u6 (Ext.cell u5 y1), Ext.cell u6 (Ext.cell u5 y2), Ext.cell u6 (Ext.cell u5 y3), Ext.cell u6 (Ext.cell u5 yl), Ext.cell u6 (Ext.cell u5 y6)⟩ | exact ⟨Ext.cell u5 y0, Ext.cell u5 y1, Ext.cell u5 y2, Ext.cell u5 y3, Ext.cell u5 yl, Ext.cell u5 y6⟩ | go_keep)
          ((first
            | (go_at_call 68; (with_reducible refine (tFeasible_b false _ (withT T i j L M) _ HFE.out (hrd.out.ext (Ext.refl _)) hok.out).mono ?_); rintro e w6 ⟨x6, rfl, u6⟩)
            | (go_at_call 25; (with_reducible refine (tWith_c T a0 a1 (some ⟨bl, ol, none⟩) (some ⟨bh, oh, none⟩) c0 c1 c2 c3 n m i j L M _ HN.out HM.out (H.out.ext x1.drew) HO.out hi' hj').mono ?_); rintro e w5 ⟨a4, a5, c4, c5, mid, r4, r5, rfl, g4, g5, q1, q2, q3, q4, u5⟩; have hrd := Lib.hid (withT_read HN.out ((H.out.f0.ext x1.drew).ext u5) ((H.out.f1.ext x1.drew).ext u5) HO.out g4 g5 q1 q2 q3 q4); clear g4 g5)))
        have hno := feasB_false.1 HFE.out
        have HNX : Hid (∀ x, Flow (NetT T) x → M + 1 ≤ x i j) := Lib.hid (fun x hx => by
          apply Classical.byContradiction
          intro hc
          exact hno ⟨x, (hfl.out x).2 ⟨hx, by have h9 : elOf T.lo i j ≤ x i j := hx.lo i j HIT.out HJT.out; rw [HL.out] at h9; exact h9, by omega⟩⟩)
        have hx9 := (hx.drew.trans u5).trans u6
        clear hno hrd
        go_wp2
        go_roundw
        case rel => exact ⟨M + 1, hi, rfl, rfl, by omega, by omega, by omega, HEX.out, HNX.out, hx9⟩
        case measure => simp [intOf]; omega
      · rw [HMM.out]; clear hM
        go_region_held3 (fun x => x.cell? ⟨w.heap.size, 0, none⟩ = some (.slice a0 n c0) ∧ x.cell? ⟨w.heap.size, 1, none⟩ = some (.slice a1 m c1) ∧ x.cell? ⟨w.heap.size, 2, none⟩ = some (.slice (some ⟨bl, ol, none⟩) n c2) ∧ x.cell? ⟨w.heap.size, 3, none⟩ = some (.slice (some ⟨bh, oh, none⟩) n c3) ∧ x.cell? ⟨bl, ol + i, none⟩ = some (.slice (some ⟨b6, o6, none⟩) m cl) ∧ x.cell? ⟨b6, o6 + j, none⟩ = some (.int .i64 L))
          (first | exact ⟨Ext.cell u6 (Ext.cell u5 y0), Ext.cell u6 (Ext.cell u5 y1), Ext.cell u6 (Ext.cell u5 y2), Ext.cell u6 (Ext.cell u5 y3), Ext.cell u6 (Ext.cell u5 yl), Ext.cell u6 (Ext.cell u5 y6)⟩ | exact ⟨Ext.cell u5 y0, Ext.cell u5 y1, Ext.cell u5 y2, Ext.cell u5 y3, Ext.cell u5 yl, Ext.cell u5 y6⟩ | go_keep)
          ((first
            | (go_at_call 68; (with_reducible refine (tFeasible_b true _ (withT T i j L M) _ HFE.out (hrd.out.ext (Ext.refl _)) hok.out).mono ?_); rintro e w6 ⟨x6, rfl, u6⟩)
            | (go_at_call 25; (with_reducible refine (tWith_c T a0 a1 (some ⟨bl, ol, none⟩) (some ⟨bh, oh, none⟩) c0 c1 c2 c3 n m i j L M _ HN.out HM.out (H.out.ext x1.drew) HO.out hi' hj').mono ?_); rintro e w5 ⟨a4, a5, c4, c5, mid, r4, r5, rfl, g4, g5, q1, q2, q3, q4, u5⟩; have hrd := Lib.hid (withT_read HN.out ((H.out.f0.ext x1.drew).ext u5) ((H.out.f1.ext x1.drew).ext u5) HO.out g4 g5 q1 q2 q3 q4); clear g4 g5)))
        have hye := feasB_true.1 HFE.out
        have HNX : Hid (∃ x, Flow (NetT T) x ∧ x i j ≤ M) := Lib.hid (by
          obtain ⟨x, hx⟩ := hye
          have h9 := (hfl.out x).1 hx
          exact ⟨x, h9.1, h9.2.2⟩)
        have hx9 := (hx.drew.trans u5).trans u6
        clear hye hrd
        go_wp2
        go_roundw
        case rel => exact ⟨lo, M, rfl, rfl, by omega, by omega, by omega, HNX.out, HAL.out, hx9⟩
        case measure => simp [intOf]; omega
    · have hlh : lo = hi := by omega
      have hlow : IsLow T i j lo := by
        obtain ⟨x, hx, hxl⟩ := HEX.out
        have h9 := HAL.out x hx
        exact ⟨⟨x, hx, by omega⟩, fun y hy => by have := HAL.out y hy; omega⟩
      have HV : Hid (lowV T i j = lo) := Lib.hid hlow.eq
      clear hlow hlh
      go_wp2
      go_ret
      exact ⟨ret_int HV.out.symm, x1⟩
set_option maxRecDepth 100000 in
set_option maxHeartbeats 3200000 in
theorem tHigh_c (T : Tr) (a0 a1 a2 a3 : Option Addr) (c0 c1 c2 c3 n m i j : Nat) (w : World) (hn : T.rows.length = n) (hm : T.cols.length = m) (h : TrR w (.agg #[.slice a0 n c0, .slice a1 m c1, .slice a2 n c2, .slice a3 n c3]) T) (ho : TrOk T) (hi' : i < n) (hj' : j < m) (hf : ∃ x, Flow (NetT T) x) :
    Calls Try.prog 70 #[.agg #[.slice a0 n c0, .slice a1 m c1, .slice a2 n c2, .slice a3 n c3], .int .i64 i, .int .i64 j] w fun e w' => e = .returned (.int .i64 (highV T i j)) ∧ Ext w w' := by
  have H := Lib.hid h; clear h
  have HO := Lib.hid ho; clear ho
  have HF := Lib.hid hf; clear hf
  have hd := HO.out.dims
  have d2 : n ≤ 8 := by rw [← hn]; exact hd.2.1
  have d4 : m ≤ 8 := by rw [← hm]; exact hd.2.2.2.1
  clear hd
  have u0 := (Ext.refl w).alloc (.cells #[.slice a0 n c0, .slice a1 m c1, .slice a2 n c2, .slice a3 n c3] 38)
  have b0 := Box.new w 38 #[.slice a0 n c0, .slice a1 m c1, .slice a2 n c2, .slice a3 n c3] rfl
  have k0 := b0.cell 0 (by simp)
  have k1 := b0.cell 1 (by simp)
  have k2 := b0.cell 2 (by simp)
  have k3 := b0.cell 3 (by simp)
  have iT : i < T.rows.length := by rw [hn]; exact hi'
  have jT : j < T.cols.length := by rw [hm]; exact hj'
  have hce := HO.out.el iT jT
  obtain ⟨_, _, e9, _, _, gl⟩ := H.out.f2.ext u0
  simp only [Value.slice.injEq] at e9
  obtain ⟨rfl, e8, rfl⟩ := e9
  clear e8
  obtain ⟨bl, ol, al, cl, rfl, hcl, l1_, l2_, l3_⟩ := gl.at_ (k := i) (by rw [HO.out.rcLo.len]; exact iT)
  obtain ⟨b6, o6, rfl, hx6⟩ := l3_ j (by rw [HO.out.rcLo.row i iT]; exact jT)
  rw [HO.out.rcLo.row i iT, hm] at hcl l1_
  clear l3_ gl
  obtain ⟨_, _, e9, _, _, gh⟩ := H.out.f3.ext u0
  simp only [Value.slice.injEq] at e9
  obtain ⟨rfl, e8, rfl⟩ := e9
  clear e8
  obtain ⟨bh, oh, ah, ch, rfl, hch, h1_, h2_, h3_⟩ := gh.at_ (k := i) (by rw [HO.out.rcHi.len]; exact iT)
  obtain ⟨b7, o7, rfl, hx7⟩ := h3_ j (by rw [HO.out.rcHi.row i iT]; exact jT)
  rw [HO.out.rcHi.row i iT, hm] at hch h1_
  clear h3_ gh
  have q7 : ix (rowAt T.hi i) j = elOf T.hi i j := rfl
  have q6 : ix (rowAt T.lo i) j = elOf T.lo i j := rfl
  rw [q7] at hx7
  rw [q6] at hx6
  clear q6 q7
  obtain ⟨L, hL⟩ : ∃ L, elOf T.lo i j = L := ⟨_, rfl⟩
  obtain ⟨U, hU⟩ : ∃ U, elOf T.hi i j = U := ⟨_, rfl⟩
  rw [hL] at hx6 hce
  rw [hU] at hx7 hce
  have HL := Lib.hid hL; clear hL
  have HU := Lib.hid hU; clear hU
  have HN := Lib.hid hn; clear hn
  have HM := Lib.hid hm; clear hm
  have HIT := Lib.hid iT; clear iT
  have HJT := Lib.hid jT; clear jT
  obtain ⟨ws, hws⟩ : ∃ ws, w.alloc (.cells #[.slice a0 n c0, .slice a1 m c1, .slice (some ⟨bl, ol, none⟩) n c2, .slice (some ⟨bh, oh, none⟩) n c3] 38) = ws := ⟨_, rfl⟩
  rw [hws] at u0 b0 k0 k1 k2 k3 hcl hx6 hch hx7
  have HWS := Lib.hid hws; clear hws
  go_enter Try.func70, Try.ntmps70
  go_wp2_with fail
  rw [HWS.out]
  go_quiet (fail)
  have x0 : Ext ws (ws.drewN nq) := (Ext.refl ws).drewN nq
  go_wp2
  go_loopw [7, 8] (fun l h wr => ∃ (lo hi : Int), l = .int .i64 lo ∧ h = .int .i64 hi ∧ L ≤ lo ∧ lo ≤ hi ∧ hi ≤ U ∧ (∃ x, Flow (NetT T) x ∧ lo ≤ x i j) ∧ (∀ x, Flow (NetT T) x → x i j ≤ hi) ∧ Ext ws wr) (fun l h _ => (intOf h - intOf l).toNat)
  case atStart => exact ⟨L, U, rfl, rfl, Int.le_refl _, hce.2.1, Int.le_refl _, ⟨HF.out.choose, HF.out.choose_spec, by have h9 : elOf T.lo i j ≤ HF.out.choose i j := HF.out.choose_spec.lo i j HIT.out HJT.out; rw [HL.out] at h9; exact h9⟩, fun x hx => by have h9 : x i j ≤ elOf T.hi i j := hx.hi i j HIT.out HJT.out; rw [HU.out] at h9; exact h9, x0⟩
  case round =>
    obtain ⟨lo, hi, rfl, rfl, e1, e2, e3, hex, hal, hx⟩ := hrel
    obtain ⟨wo, rfl⟩ : ∃ wo : World, wo = wr := ⟨_, rfl⟩
    have HEX := Lib.hid hex; clear hex
    have HAL := Lib.hid hal; clear hal
    have bo := b0.ext hx
    have y0 := bo.cell 0 (by simp)
    have y1 := bo.cell 1 (by simp)
    have y2 := bo.cell 2 (by simp)
    have y3 := bo.cell 3 (by simp)
    have y6 := Ext.cell hx hx6
    have y7 := Ext.cell hx hx7
    have yl := Ext.cell hx hcl
    have yh := Ext.cell hx hch
    have x1 := u0.trans hx
    by_cases hlt : lo < hi
    · obtain ⟨M, hM⟩ : ∃ M, (lo + hi + 1) / 2 = M := ⟨_, rfl⟩
      have hMb : lo ≤ M ∧ M ≤ hi ∧ lo < M := by omega
      have HMM := Lib.hid hM
      have hok := Lib.hid (withT_ok HO.out HIT.out HJT.out (a := M) (b := U) (by omega))
      have hfl := Lib.hid (flow_withT HO.out HIT.out HJT.out (a := M) (b := U) (by rw [HL.out]; omega) (by rw [HU.out]; omega))
      cases hfe : feasB (withT T i j M U)
      all_goals
        have HFE := Lib.hid hfe; clear hfe
        go_wp2_with fail
      · rw [HMM.out]; clear hM
        go_region_held3 (fun x => x.cell? ⟨w.heap.size, 0, none⟩ = some (.slice a0 n c0) ∧ x.cell? ⟨w.heap.size, 1, none⟩ = some (.slice a1 m c1) ∧ x.cell? ⟨w.heap.size, 2, none⟩ = some (.slice (some ⟨bl, ol, none⟩) n c2) ∧ x.cell? ⟨w.heap.size, 3, none⟩ = some (.slice (some ⟨bh, oh, none⟩) n c3) ∧ x.cell? ⟨bh, oh + i, none⟩ = some (.slice (some ⟨b7, o7, none⟩) m ch) ∧ x.cell? ⟨b7, o7 + j, none⟩ = some (.int .i64 U))
          (first | exact ⟨Ext.cell u6 (Ext.cell u5 y0), Ext.cell u6 (Ext.cell u5 y1), Ext.cell u6 (Ext.cell u5 y2), Ext.cell u6 (Ext.cell u5 y3), Ext.cell u6 (Ext.cell u5 yh), Ext.cell u6 (Ext.cell u5 y7)⟩ | exact ⟨Ext.cell u5 y0, Ext.cell u5 y1, Ext.cell u5 y2, Ext.cell u5 y3, Ext.cell u5 yh, Ext.cell u5 y7⟩ | go_keep)
          ((first
            | (go_at_call 68; (with_reducible refine (tFeasible_b false _ (withT T i j M U) _ HFE.out (hrd.out.ext (Ext.refl _)) hok.out).mono ?_); rintro e w6 ⟨x6, rfl, u6⟩)
            | (go_at_call 25; (with_reducible refine (tWith_c T a0 a1 (some ⟨bl, ol, none⟩) (some ⟨bh, oh, none⟩) c0 c1 c2 c3 n m i j M U _ HN.out HM.out (H.out.ext x1.drew) HO.out hi' hj').mono ?_); rintro e w5 ⟨a4, a5, c4, c5, mid, r4, r5, rfl, g4, g5, q1, q2, q3, q4, u5⟩; have hrd := Lib.hid (withT_read HN.out ((H.out.f0.ext x1.drew).ext u5) ((H.out.f1.ext x1.drew).ext u5) HO.out g4 g5 q1 q2 q3 q4); clear g4 g5)))
        have hno := feasB_false.1 HFE.out
        have HNX : Hid (∀ x, Flow (NetT T) x → x i j ≤ M - 1) := Lib.hid (fun x hx => by
          apply Classical.byContradiction
          intro hc
          exact hno ⟨x, (hfl.out x).2 ⟨hx, by omega, by have h9 : x i j ≤ elOf T.hi i j := hx.hi i j HIT.out HJT.out; rw [HU.out] at h9; exact h9⟩⟩)
        have hx9 := (hx.drew.trans u5).trans u6
        clear hno hrd
        go_wp2
        go_roundw
        case rel => exact ⟨lo, M - 1, rfl, rfl, by omega, by omega, by omega, HEX.out, HNX.out, hx9⟩
        case measure => simp [intOf]; omega
      · rw [HMM.out]; clear hM
        go_region_held3 (fun x => x.cell? ⟨w.heap.size, 0, none⟩ = some (.slice a0 n c0) ∧ x.cell? ⟨w.heap.size, 1, none⟩ = some (.slice a1 m c1) ∧ x.cell? ⟨w.heap.size, 2, none⟩ = some (.slice (some ⟨bl, ol, none⟩) n c2) ∧ x.cell? ⟨w.heap.size, 3, none⟩ = some (.slice (some ⟨bh, oh, none⟩) n c3) ∧ x.cell? ⟨bh, oh + i, none⟩ = some (.slice (some ⟨b7, o7, none⟩) m ch) ∧ x.cell? ⟨b7, o7 + j, none⟩ = some (.int .i64 U))
          (first | exact ⟨Ext.cell u6 (Ext.cell u5 y0), Ext.cell u6 (Ext.cell u5 y1), Ext.cell u6 (Ext.cell u5 y2), Ext.cell u6 (Ext.cell u5 y3), Ext.cell u6 (Ext.cell u5 yh), Ext.cell u6 (Ext.cell u5 y7)⟩ | exact ⟨Ext.cell u5 y0, Ext.cell u5 y1, Ext.cell u5 y2, Ext.cell u5 y3, Ext.cell u5 yh, Ext.cell u5 y7⟩ | go_keep)
          ((first
            | (go_at_call 68; (with_reducible refine (tFeasible_b true _ (withT T i j M U) _ HFE.out (hrd.out.ext (Ext.refl _)) hok.out).mono ?_); rintro e w6 ⟨x6, rfl, u6⟩)
            | (go_at_call 25; (with_reducible refine (tWith_c T a0 a1 (some ⟨bl, ol, none⟩) (some ⟨bh, oh, none⟩) c0 c1 c2 c3 n m i j M U _ HN.out HM.out (H.out.ext x1.drew) HO.out hi' hj').mono ?_); rintro e w5 ⟨a4, a5, c4, c5, mid, r4, r5, rfl, g4, g5, q1, q2, q3, q4, u5⟩; have hrd := Lib.hid (withT_read HN.out ((H.out.f0.ext x1.drew).ext u5) ((H.out.f1.ext x1.drew).ext u5) HO.out g4 g5 q1 q2 q3 q4); clear g4 g5)))
        have hye := feasB_true.1 HFE.out
        have HNX : Hid (∃ x, Flow (NetT T) x ∧ M ≤ x i j) := Lib.hid (by
          obtain ⟨x, hx⟩ := hye
          have h9 := (hfl.out x).1 hx
          exact ⟨x, h9.1, h9.2.1⟩)
        have hx9 := (hx.drew.trans u5).trans u6
        clear hye hrd
        go_wp2
        go_roundw
        case rel => exact ⟨M, hi, rfl, rfl, by omega, by omega, by omega, HNX.out, HAL.out, hx9⟩
        case measure => simp [intOf]; omega
    · have hlh : lo = hi := by omega
      have hlow : IsHigh T i j lo := by
        obtain ⟨x, hx, hxl⟩ := HEX.out
        have h9 := HAL.out x hx
        exact ⟨⟨x, hx, by omega⟩, fun y hy => by have := HAL.out y hy; omega⟩
      have HV : Hid (highV T i j = lo) := Lib.hid hlow.eq
      clear hlow hlh
      go_wp2
      go_ret
      exact ⟨ret_int HV.out.symm, x1⟩

set_option maxRecDepth 100000 in
set_option maxHeartbeats 3200000 in
theorem tRange_c (b : Bool) (T : Tr) (a0 a1 a2 a3 : Option Addr) (c0 c1 c2 c3 n m i j : Nat) (w : World) (hb : feasB T = b) (hn : T.rows.length = n) (hm : T.cols.length = m) (h : TrR w (.agg #[.slice a0 n c0, .slice a1 m c1, .slice a2 n c2, .slice a3 n c3]) T) (ho : TrOk T) (hi' : i < n) (hj' : j < m) :
    Calls Try.prog 23 #[.agg #[.slice a0 n c0, .slice a1 m c1, .slice a2 n c2, .slice a3 n c3], .int .i64 i, .int .i64 j] w fun e w' => e = .returned (.tuple #[.int .i64 (if b = true then lowV T i j else 0), .int .i64 (if b = true then highV T i j else 0), .bool b]) ∧ Ext w w' := by
  have H := Lib.hid h; clear h
  have HO := Lib.hid ho; clear ho
  have HN := Lib.hid hn; clear hn
  have HM := Lib.hid hm; clear hm
  have HB := Lib.hid hb; clear hb
  have u0 := (Ext.refl w).alloc (.cells #[.slice a0 n c0, .slice a1 m c1, .slice a2 n c2, .slice a3 n c3] 38)
  have b0 := Box.new w 38 #[.slice a0 n c0, .slice a1 m c1, .slice a2 n c2, .slice a3 n c3] rfl
  have k0 := b0.cell 0 (by simp)
  have k1 := b0.cell 1 (by simp)
  have k2 := b0.cell 2 (by simp)
  have k3 := b0.cell 3 (by simp)
  cases b
  · go_enter Try.func23, Try.ntmps23
    go_wp2_with fail
    refine (tFeasible_b false _ T _ HB.out (H.out.ext u0) HO.out).mono ?_
    rintro e w1 ⟨x1, rfl, u1⟩
    go_wp2
    go_ret3
    exact ⟨rfl, u0.trans u1⟩
  · have hf := feasB_true.1 HB.out
    have HF := Lib.hid hf; clear hf
    obtain ⟨VL, hVL⟩ : ∃ V, lowV T i j = V := ⟨_, rfl⟩
    obtain ⟨VH, hVH⟩ : ∃ V, highV T i j = V := ⟨_, rfl⟩
    rw [hVL, hVH]
    have HVL := Lib.hid hVL; clear hVL
    have HVH := Lib.hid hVH; clear hVH
    go_enter Try.func23, Try.ntmps23
    go_wp2_with fail
    refine (tFeasible_b true _ T _ HB.out (H.out.ext u0) HO.out).mono ?_
    rintro e w1 ⟨x1, rfl, u1⟩
    have b1 := b0.ext u1
    have y0 := b1.cell 0 (by simp)
    have y1 := b1.cell 1 (by simp)
    have y2 := b1.cell 2 (by simp)
    have y3 := b1.cell 3 (by simp)
    have v1 := u0.trans u1
    go_wp2_with fail
    go_region_held3 (fun x => x.cell? ⟨w.heap.size, 0, none⟩ = some (.slice a0 n c0) ∧ x.cell? ⟨w.heap.size, 1, none⟩ = some (.slice a1 m c1) ∧ x.cell? ⟨w.heap.size, 2, none⟩ = some (.slice a2 n c2) ∧ x.cell? ⟨w.heap.size, 3, none⟩ = some (.slice a3 n c3))
      (first | exact ⟨Ext.cell u6 (Ext.cell u5 y0), Ext.cell u6 (Ext.cell u5 y1), Ext.cell u6 (Ext.cell u5 y2), Ext.cell u6 (Ext.cell u5 y3)⟩ | exact ⟨Ext.cell u5 y0, Ext.cell u5 y1, Ext.cell u5 y2, Ext.cell u5 y3⟩ | go_keep)
      ((first
        | (go_at_call 70; (with_reducible refine (tHigh_c T a0 a1 a2 a3 c0 c1 c2 c3 n m i j _ HN.out HM.out ((H.out.ext v1.drew).ext u5) HO.out hi' hj' HF.out).mono ?_); rw [HVH.out]; rintro e w6 ⟨rfl, u6⟩)
        | (go_at_call 69; (with_reducible refine (tLow_c T a0 a1 a2 a3 c0 c1 c2 c3 n m i j _ HN.out HM.out (H.out.ext v1.drew) HO.out hi' hj' HF.out).mono ?_); rw [HVL.out]; rintro e w5 ⟨rfl, u5⟩)))
    have v9 := (v1.drew.trans u5).trans u6
    go_wp2
    go_ret3
    exact ⟨rfl, v9⟩
end Go.Proofs.Ytodnkahnbidgaaa
