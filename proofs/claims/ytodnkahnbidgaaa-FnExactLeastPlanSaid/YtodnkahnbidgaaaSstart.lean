/- The matrix Lo with what is left of the sums, the spec's: tStart. -/
import Derived.Test.YtodnkahnbidgaaaSaug
import Derived.Test.YtodnkahnbidgaaaGrow
namespace Go.Proofs.Ytodnkahnbidgaaa
open Go.RowKit
open Fm

def rleft (T : Tr) : Nat → List Int
  | 0 => []
  | k + 1 => rleft T k ++ [ix T.rows k - (rowAt T.lo k).sum]
def cleft (T : Tr) : Nat → List Int
  | 0 => []
  | k + 1 => cleft T k ++ [ix T.cols k - (colOf T.lo k).sum]
theorem rleft_length (T : Tr) : ∀ k, (rleft T k).length = k
  | 0 => rfl
  | k + 1 => by simp [rleft, rleft_length T k]
theorem cleft_length (T : Tr) : ∀ k, (cleft T k).length = k
  | 0 => rfl
  | k + 1 => by simp [cleft, cleft_length T k]
theorem ix_rleft (T : Tr) : ∀ {k i : Nat}, i < k → ix (rleft T k) i = ix T.rows i - (rowAt T.lo i).sum
  | 0, i, h => by omega
  | k + 1, i, h => by
    unfold rleft
    by_cases e : i = k
    · subst e
      have := ix_append_len (xs := rleft T i) (r := ix T.rows i - (rowAt T.lo i).sum)
      rwa [rleft_length] at this
    · rw [ix_append_left (by rw [rleft_length]; omega)]; exact ix_rleft T (by omega)
theorem ix_cleft (T : Tr) : ∀ {k i : Nat}, i < k → ix (cleft T k) i = ix T.cols i - (colOf T.lo i).sum
  | 0, i, h => by omega
  | k + 1, i, h => by
    unfold cleft
    by_cases e : i = k
    · subst e
      have := ix_append_len (xs := cleft T i) (r := ix T.cols i - (colOf T.lo i).sum)
      rwa [cleft_length] at this
    · rw [ix_append_left (by rw [cleft_length]; omega)]; exact ix_cleft T (by omega)
def startB (T : Tr) : Bool := allIn 0 100000 (rleft T T.rows.length) && allIn 0 100000 (cleft T T.cols.length)
theorem rleft_S {T : Tr} (h : TrOk T) {i : Nat} (hi : i < T.rows.length) : ix (rleft T T.rows.length) i = ix T.rows i - S T.cols.length (elOf T.lo i) := by rw [ix_rleft T hi, h.rcLo.rowsum hi]
theorem cleft_S {T : Tr} (h : TrOk T) {j : Nat} (hj : j < T.cols.length) : ix (cleft T T.cols.length) j = ix T.cols j - S T.rows.length (fun i => elOf T.lo i j) := by rw [ix_cleft T hj, h.rcLo.colsum j]
theorem start_yes {T : Tr} (h : TrOk T) (hb : startB T = true) : SFill T T.lo (rleft T T.rows.length) (cleft T T.cols.length) := by
  unfold startB at hb
  rw [Bool.and_eq_true] at hb
  exact ⟨h.rcLo, fun _ _ _ _ => Int.le_refl _, fun i j hi hj => (h.el hi hj).2.1, rleft_length _ _, cleft_length _ _,
    fun i hi => ⟨rleft_S h hi, (allIn_true hb.1 (by rw [rleft_length]; exact hi)).1⟩, fun j hj => ⟨cleft_S h hj, (allIn_true hb.2 (by rw [cleft_length]; exact hj)).1⟩⟩
theorem start_no {T : Tr} (h : TrOk T) (hb : startB T = false) : ¬ ∃ x, Fits (NetT T) x := by
  rintro ⟨x, hx⟩
  have : startB T = true := by
    unfold startB
    rw [Bool.and_eq_true]
    refine ⟨allIn_of (fun i hi => ?_), allIn_of (fun j hj => ?_)⟩
    · rw [rleft_length] at hi
      rw [rleft_S h hi]
      have h1 : S T.cols.length (elOf T.lo i) ≤ S T.cols.length (x i) := S_le (fun j hj => hx.lo i j hi hj)
      have h2 : S T.cols.length (x i) ≤ ix T.rows i := hx.row i hi
      have h3 : 0 ≤ S T.cols.length (elOf T.lo i) := S_nonneg (fun j hj => (h.el hi hj).1)
      have h4 := h.rowR hi
      omega
    · rw [cleft_length] at hj
      rw [cleft_S h hj]
      have h1 : S T.rows.length (fun i => elOf T.lo i j) ≤ S T.rows.length (fun i => x i j) := S_le (fun i hi => hx.lo i j hi hj)
      have h2 : S T.rows.length (fun i => x i j) ≤ ix T.cols j := hx.col j hj
      have h3 : 0 ≤ S T.rows.length (fun i => elOf T.lo i j) := S_nonneg (fun i hi => (h.el hi hj).1)
      have h4 := h.colR hj
      omega
  rw [this] at hb; cases hb
theorem TrOk.tameLo {T : Tr} (h : TrOk T) : Tame T.lo := h.withinLo.tame h
theorem TrOk.loRowOk {T : Tr} (h : TrOk T) {i : Nat} (hi : i < T.rows.length) : SumOk (rowAt T.lo i) := sumOk_of (h.tameLo.row (by rw [h.rcLo.len]; exact hi))
theorem TrOk.loColOk {T : Tr} (h : TrOk T) {j : Nat} (hj : j < T.cols.length) : SumOk (colOf T.lo j) := sumOk_of (h.tameLo.col (fun i hi => by rw [h.rcLo.row i (by rw [← h.rcLo.len]; exact hi)]; exact hj))

set_option maxRecDepth 100000 in
set_option maxHeartbeats 6400000 in
theorem tStart_c (v : Value) (T : Tr) (w : World) (h : TrR w v T) (ho : TrOk T) :
    Calls Try.prog 111 #[v] w fun e w' => ∃ (fb mid : Nat) (F : FV), e = .returned (.tuple #[.pointer (some ⟨fb, 0, none⟩), .bool (startB T)]) ∧ FillS (w.heap.size + 1) fb mid w'.heap.size w w' F T T.lo (rleft T T.rows.length) (cleft T T.cols.length) ∧ Ext w w' := by
  have H := Lib.hid h
  have HO := Lib.hid ho; clear ho
  obtain ⟨a0, c0, a1, c1, a2, c2, a3, c3, rfl, n0, n1, n2, n3⟩ := h.form
  clear h
  have hd := HO.out.dims
  have d1 := hd.1
  have d2 := hd.2.1
  have d3 := hd.2.2.1
  have d4 := hd.2.2.2.1
  have d5 := hd.2.2.2.2.1
  have d6 := hd.2.2.2.2.2
  rw [d5, d6] at H ⊢
  rw [d5] at n2
  rw [d6] at n3
  have D5 := Lib.hid d5; clear d5 d6 hd
  obtain ⟨n, hn⟩ : ∃ n, T.rows.length = n := ⟨_, rfl⟩
  obtain ⟨m, hm⟩ : ∃ m, T.cols.length = m := ⟨_, rfl⟩
  rw [hn] at H n0 n2 n3 d1 d2 ⊢
  rw [hm] at H n1 d3 d4 ⊢
  have HN := Lib.hid hn; clear hn
  have HM := Lib.hid hm; clear hm
  have u0 := (Ext.refl w).alloc (.cells #[.slice a0 n c0, .slice a1 m c1, .slice a2 n c2, .slice a3 n c3] 38)
  have b0 := Box.new w 38 #[.slice a0 n c0, .slice a1 m c1, .slice a2 n c2, .slice a3 n c3] rfl
  have k0 := b0.cell 0 (by simp)
  have k1 := b0.cell 1 (by simp)
  have k2 := b0.cell 2 (by simp)
  have k3 := b0.cell 3 (by simp)
  have hsz0 : (w.alloc (.cells #[.slice a0 n c0, .slice a1 m c1, .slice a2 n c2, .slice a3 n c3] 38)).heap.size = w.heap.size + 1 := by simp
  have hlo1 : T.lo.length ≤ 1048576 := by rw [D5.out, HN.out]; omega
  have hlo2 : ∀ k, k < T.lo.length → (rowAt T.lo k).length ≤ 1048576 := fun k hk => by rw [HO.out.rcLo.row k (by rw [← D5.out]; exact hk), HM.out]; omega
  have hlo3 : ∀ k, k < T.lo.length → rowAt T.lo k ≠ [] := fun k hk e => by
    have := HO.out.rcLo.row k (by rw [← D5.out]; exact hk)
    rw [e, HM.out] at this; simp at this; omega
  have HL := Lib.hid (And.intro hlo1 (And.intro hlo2 hlo3)); clear hlo1 hlo2 hlo3
  have HSZ := Lib.hid hsz0; clear hsz0
  obtain ⟨ws, hws⟩ : ∃ ws, w.alloc (.cells #[.slice a0 n c0, .slice a1 m c1, .slice a2 n c2, .slice a3 n c3] 38) = ws := ⟨_, rfl⟩
  have HWS := Lib.hid hws; clear hws
  go_enter Try.func111, Try.ntmps111
  go_upto_region 1 with fail
  rw [HWS.out] at u0 b0 k0 k1 k2 k3 HSZ ⊢
  go_cut [4] from 4 to 14 (fun s4 wx => ∃ (fb : Nat) (ax : Option Addr) (cx : Nat) (rvs : List Value), s4 = .pointer (some ⟨fb, 0, none⟩) ∧ fb + 1 = wx.heap.size ∧ w.heap.size + 1 ≤ fb ∧ n ≤ cx ∧ cx ≤ 9223372036854775807 ∧
    Box wx fb 94 #[.slice a0 n c0, .slice a1 m c1, .slice a2 n c2, .slice a3 n c3, .slice ax T.lo.length cx, .slice none 0 0, .slice none 0 0] ∧ OwnGA (w.heap.size + 1) fb wx ax rvs T.lo ∧ Ext ws wx)
  case first =>
    go_region_law ((go_simp; go_at_call 37; refine (tOwn_c _ T.lo _ (H.out.f2.ext u0.drew) HL.out.1 HL.out.2.1 HL.out.2.2).mono ?_; rintro e w4 ⟨x4, r4, rfl, o4, u4⟩; obtain ⟨a4, c4, rfl, q1, q2, q3⟩ := o4; have O4 := Lib.hid q3; clear q3; have y0 := Ext.cell u4 (show ws.drew.cell? _ = _ from k0); have y1 := Ext.cell u4 (show ws.drew.cell? _ = _ from k1); have y2 := Ext.cell u4 (show ws.drew.cell? _ = _ from k2); have y3 := Ext.cell u4 (show ws.drew.cell? _ = _ from k3)))
    all_goals
      have hs4 := u4.size
      have hbx := Box.new w4 94 #[.slice a0 n c0, .slice a1 m c1, .slice a2 n c2, .slice a3 n c3, .slice a4 T.lo.length c4, .slice none 0 0, .slice none 0 0] rfl
      have hxx := (((Ext.refl ws).drew.trans u4).alloc (.cells #[.slice a0 n c0, .slice a1 m c1, .slice a2 n c2, .slice a3 n c3, .slice a4 T.lo.length c4, .slice none 0 0, .slice none 0 0] 94))
      have HXX := Lib.hid (And.intro hbx hxx); clear hbx hxx y0 y1 y2 y3
      have q1' : n ≤ c4 := by have := D5.out; have := HN.out; omega
      have hO := (O4.out.mono (lo' := w.heap.size + 1) (by simp; have := HSZ.out; omega) (Nat.le_refl _)).ext ((Ext.refl w4).alloc (.cells #[.slice a0 n c0, .slice a1 m c1, .slice a2 n c2, .slice a3 n c3, .slice a4 T.lo.length c4, .slice none 0 0, .slice none 0 0] 94))
      have HOO := Lib.hid hO; clear hO
      have hs5 : w.heap.size + 1 ≤ w4.heap.size := by have := HSZ.out; simp at hs4; omega
      go_wp2_with fail
      go_meet
      exact ⟨w4.heap.size, a4, c4, r4, rfl, by simp, hs5, q1', q2, HXX.out.1, HOO.out, HXX.out.2⟩
  case rest =>
    obtain ⟨fb, ax, cx, rvs, rfl, hfb, hfl, hcx1, hcx2, hb, hg, hx⟩ := hcut
    obtain ⟨wF, rfl⟩ : ∃ wF : World, wF = wc := ⟨_, rfl⟩
    rw [D5.out, HN.out] at hb
    have HG := Lib.hid hg; clear hg
    have HSW : ws.heap.size = w.heap.size + 1 := HSZ.out
    have HSW := Lib.hid HSW
    have hlt5 : ws.heap.size ≤ fb := by have := HSZ.out; omega
    have y0 := Ext.cell hx k0
    clear k0
    go_wp2
    go_loopw [18] (fun i wr => ∃ (k : Nat) (rv : Value), k ≤ n ∧ i = .int .i64 k ∧ Box wr fb 94 #[.slice a0 n c0, .slice a1 m c1, .slice a2 n c2, .slice a3 n c3, .slice ax n cx, rv, .slice none 0 0] ∧ IRow (fb + 1) wr rv (rleft T k) ∧ OwnGA (w.heap.size + 1) fb wr ax rvs T.lo ∧ Ext ws wr ∧ fb + 1 ≤ wr.heap.size) (fun i _ => n - (intOf i).toNat)
    case atStart => exact ⟨0, _, Nat.zero_le _, rfl, hb, IRow.nil, HG.out, hx, by omega⟩
    case round =>
      obtain ⟨k, rv, hk, rfl, hb, hr, hg, hx, hsz⟩ := hrel
      obtain ⟨wo, rfl⟩ : ∃ wo : World, wo = wr := ⟨_, rfl⟩
      have HG := Lib.hid hg; clear hg
      have HB := Lib.hid hb; clear hb
      have hxw := u0.trans hx
      by_cases hlt : k < n
      · have HR := Lib.hid hr
        have hown := hr
        unfold IRow at hown
        rw [rleft_length] at hown
        have HOWN := Lib.hid hown; clear hown hr
        have hcv := HO.out.rowR (i := k) (by rw [HN.out]; exact hlt)
        obtain ⟨_, _, e9, _, _, gr⟩ := H.out.f0.ext hxw
        simp only [Value.slice.injEq] at e9
        obtain ⟨rfl, e8, rfl⟩ := e9
        clear e8
        obtain ⟨b5, o5, rfl, hx5⟩ := gr k (by rw [HN.out]; exact hlt)
        clear gr
        obtain ⟨_, _, e9, _, _, gl⟩ := H.out.f2.ext hxw
        simp only [Value.slice.injEq] at e9
        obtain ⟨rfl, e8, rfl⟩ := e9
        clear e8
        obtain ⟨b6, o6, ar, cr, rfl, hc6, r1, r2, r3⟩ := gl.at_ (k := k) (by rw [D5.out, HN.out]; exact hlt)
        clear gl
        have hR3 : Ints wo (.slice ar (rowAt T.lo k).length cr) (rowAt T.lo k) := ⟨ar, cr, rfl, r1, r2, r3⟩
        have HR3 := Lib.hid hR3; clear hR3 r3
        have hrlen := HO.out.rcLo.row k (by rw [HN.out]; exact hlt)
        have SO := Lib.hid (HO.out.loRowOk (i := k) (by rw [HN.out]; exact hlt))
        have hsr := SO.out (rowAt T.lo k).length
        rw [List.take_length] at hsr
        obtain ⟨S, hS⟩ : ∃ S, (rowAt T.lo k).sum = S := ⟨_, rfl⟩
        rw [hS] at hsr
        have HS := Lib.hid hS; clear hS
        obtain ⟨R, hR⟩ : ∃ R, ix T.rows k = R := ⟨_, rfl⟩
        rw [hR] at hcv hx5
        have HRR := Lib.hid hR; clear hR
        rw [hrlen, HM.out] at hc6 r1
        clear hrlen
        have HRL := Lib.hid (HO.out.rcLo.row k (by rw [HN.out]; exact hlt))
        have bp := b0.ext hx
        have z2 := bp.cell 2 (by simp)
        have cb := HB.out.cell 5 (by simp)
        obtain ⟨D, hD⟩ : ∃ D, R - S = D := ⟨_, rfl⟩
        have hw : IntKind.i64.wrap (R - S) = D := by rw [IntWalk.i64_in _ (by omega)]; exact hD
        have HD := Lib.hid hD; clear hD
        have HR4 : Hid (Ints wo (.slice ar m cr) (rowAt T.lo k)) := Lib.hid (by have h9 := HR3.out; rw [HRL.out, HM.out] at h9; exact h9)
        have cb2 := Ext.cell ((Ext.refl wo).alloc (.cells #[.int .i64 D] 3)) cb
        go_wp2_with fail
        go_region_law (first
          | (go_simp; go_at_call 66; refine (tSum_c _ (rowAt T.lo k) _ (HR4.out.ext (Ext.refl wo).drew) SO.out).mono ?_; rw [HS.out]; rintro e w4 ⟨rfl, rfl⟩)
          | (refine app1s _ (by rfl) _ _ 36 3 (by rfl) (.int .i64 0) 8 Try.underlying36 info_int rfl (fb + 1) _ k _ (by rfl) (HOWN.out.kept (row := none) ⟨((Ext.refl wo).drew.alloc _).os, ((Ext.refl wo).drew.alloc _).tape, ((Ext.refl wo).drew.alloc _).output, ((Ext.refl wo).drew.alloc _).size, fun k hk _ => ((Ext.refl wo).drew.alloc _).block hk⟩ (by cases (Value.ownBlock _) <;> simp)) wo.heap.size 1 3 (.int .i64 D) (by rfl) (Box.new _ _ _ rfl) rfl (by omega) (by omega) (by simp; omega) ?_; intro g cp w3 hown3 hgrow hat hlt3
             have E1 := (Ext.refl wo).drew.alloc (.cells #[.int .i64 D] 3)
             have hb3 := (HR.out.ext E1).box hgrow (by omega) (HB.out.ext E1)
             have c3 := hb3.cell 5 (by simp)
             have f3 := hb3.free 5))
        all_goals
          have hIR : IRow (fb + 1) w3 (.slice (some ⟨g, 0, none⟩) (k + 1) cp) (rleft T (k + 1)) := by
            show IRow (fb + 1) w3 _ (rleft T k ++ [ix T.rows k - (rowAt T.lo k).sum])
            rw [HRR.out, HS.out, HD.out]
            exact IRow.push (by rw [rleft_length]; exact hown3)
          have hX3 := (HR.out.ext E1).grew (hx.trans E1) (by omega) hgrow
          have hG3 := (HG.out.ext E1).away (Upd.of_grown hgrow) (fun b hb => by have := ((HR.out.ext E1).blk hb).1; omega)
          have hszE : wo.heap.size ≤ w3.heap.size := by have h1 := hgrow.size; simp at h1; omega
          have HH := Lib.hid (And.intro hIR (And.intro hX3 hG3)); clear hIR hX3 hG3
          have HB3 := Lib.hid hb3; clear hb3
          go_wp2
          go_roundw
          case rel => exact ⟨k + 1, _, by omega, by go_num, HB3.out.set 5 _, HH.out.1.put (by simp only; omega) _, HH.out.2.2.put_away _ _ (.inr (by simp only; omega)), HH.out.2.1.setCell _ (by simp only; omega), by rw [World.size_setCell]; omega⟩
          case measure => simp [intOf]; omega
      · have hkn : k = n := by omega
        subst hkn
        obtain ⟨ra, rc, evr, qr1, qr2, qr3⟩ := hr.own (Nat.le_refl _)
        clear hr
        subst evr
        rw [rleft_length] at qr1 HB
        have HRA := Lib.hid qr3; clear qr3
        have hb := HB.out
        have ym := Ext.cell hx k1
        clear k1
        have hmid : fb + 1 ≤ wo.heap.size := hsz
        go_wp2
        go_loopw [44] (fun i wr => ∃ (l : Nat) (cv : Value), l ≤ m ∧ i = .int .i64 l ∧ Box wr fb 94 #[.slice a0 k c0, .slice a1 m c1, .slice a2 k c2, .slice a3 k c3, .slice ax k cx, .slice ra k rc, cv] ∧ IRow wo.heap.size wr cv (cleft T l) ∧ OwnGA (w.heap.size + 1) fb wr ax rvs T.lo ∧ OwnA (fb + 1) wo.heap.size wr ra (rleft T k) ∧ Ext ws wr ∧ wo.heap.size ≤ wr.heap.size) (fun i _ => m - (intOf i).toNat)
        case atStart => exact ⟨0, _, Nat.zero_le _, rfl, hb, IRow.nil, HG.out, HRA.out, hx, Nat.le_refl _⟩
        case round =>
          obtain ⟨l, cv, hl, rfl, hb, hr, hg, hra, hx2, hsz2⟩ := hrel
          obtain ⟨wi, rfl⟩ : ∃ wi : World, wi = wr := ⟨_, rfl⟩
          have HG := Lib.hid hg; clear hg
          have HB := Lib.hid hb; clear hb
          have HRA := Lib.hid hra; clear hra
          have hxw2 := u0.trans hx2
          by_cases hlt2 : l < m
          · have HR := Lib.hid hr
            have hown := hr
            unfold IRow at hown
            rw [cleft_length] at hown
            have HOWN := Lib.hid hown; clear hown hr
            have hcv := HO.out.colR (i := l) (by rw [HM.out]; exact hlt2)
            obtain ⟨_, _, e9, _, _, gr⟩ := H.out.f1.ext hxw2
            simp only [Value.slice.injEq] at e9
            obtain ⟨rfl, e8, rfl⟩ := e9
            clear e8
            obtain ⟨b5, o5, rfl, hx5⟩ := gr l (by rw [HM.out]; exact hlt2)
            clear gr
            have HGR := Lib.hid (H.out.f2.ext hxw2)
            have SO := Lib.hid (HO.out.loColOk (j := l) (by rw [HM.out]; exact hlt2))
            have hsr := SO.out (colOf T.lo l).length
            rw [List.take_length] at hsr
            obtain ⟨S, hS⟩ : ∃ S, (colOf T.lo l).sum = S := ⟨_, rfl⟩
            rw [hS] at hsr
            have HS := Lib.hid hS; clear hS
            obtain ⟨R, hR⟩ : ∃ R, ix T.cols l = R := ⟨_, rfl⟩
            rw [hR] at hcv hx5
            have HRR := Lib.hid hR; clear hR
            have bp := b0.ext hx2
            have z2 := bp.cell 2 (by simp)
            have cb := HB.out.cell 6 (by simp)
            obtain ⟨D, hD⟩ : ∃ D, R - S = D := ⟨_, rfl⟩
            have hw : IntKind.i64.wrap (R - S) = D := by rw [IntWalk.i64_in _ (by omega)]; exact hD
            have HD := Lib.hid hD; clear hD
            have hl8 : T.lo.length ≤ 1000 := by rw [D5.out, HN.out]; omega
            have HCO : Hid (∀ i, i < T.lo.length → l < (rowAt T.lo i).length) := Lib.hid (fun i hi => by rw [HO.out.rcLo.row i (by rw [← D5.out]; exact hi), HM.out]; exact hlt2)
            go_wp2_with fail
            go_region_law (first
              | (go_simp; go_at_call 67; refine (tColumn_c _ T.lo l _ (HGR.out.ext (Ext.refl wi).drew) hl8 HCO.out).mono ?_; rintro e w4 ⟨v4, rfl, o4, u4⟩
                 have cb4 := Ext.cell u4 (show wi.drew.cell? _ = _ from cb)
                 have cb5 := Ext.cell ((Ext.refl w4).alloc (.cells #[.int .i64 D] 3)) cb4)
              | (go_simp; go_at_call 66; refine (tSum_c _ (colOf T.lo l) _ o4.ints SO.out).mono ?_; rw [HS.out]; rintro e w4 ⟨rfl, rfl⟩)
              | (refine app1s _ (by rfl) _ _ 36 3 (by rfl) (.int .i64 0) 8 Try.underlying36 info_int rfl wo.heap.size _ l _ (by rfl) (HOWN.out.kept (row := none) ⟨(((Ext.refl wi).drew.trans u4).alloc _).os, (((Ext.refl wi).drew.trans u4).alloc _).tape, (((Ext.refl wi).drew.trans u4).alloc _).output, (((Ext.refl wi).drew.trans u4).alloc _).size, fun k hk _ => (((Ext.refl wi).drew.trans u4).alloc _).block hk⟩ (by cases (Value.ownBlock _) <;> simp)) w4.heap.size 1 3 (.int .i64 D) (by rfl) (Box.new _ _ _ rfl) rfl (by omega) (by omega) (by have := u4.size; simp at this; simp; omega) ?_; intro g cp w3 hown3 hgrow hat hlt3
                 have E1 := ((Ext.refl wi).drew.trans u4).alloc (.cells #[.int .i64 D] 3)
                 have hb3 := (HR.out.ext E1).box hgrow (by omega) (HB.out.ext E1)
                 have c3 := hb3.cell 6 (by simp)
                 have f3 := hb3.free 6))
            all_goals
              have hIR : IRow wo.heap.size w3 (.slice (some ⟨g, 0, none⟩) (l + 1) cp) (cleft T (l + 1)) := by
                show IRow wo.heap.size w3 _ (cleft T l ++ [ix T.cols l - (colOf T.lo l).sum])
                rw [HRR.out, HS.out, HD.out]
                exact IRow.push (by rw [cleft_length]; exact hown3)
              have hX3 := (HR.out.ext E1).grew (hx2.trans E1) (by omega) hgrow
              have hG3 := (HG.out.ext E1).away (Upd.of_grown hgrow) (fun b hb => by have := ((HR.out.ext E1).blk hb).1; omega)
              have hR3 := (HRA.out.ext E1).away (Upd.of_grown hgrow) (fun b hb => by have := ((HR.out.ext E1).blk hb).1; omega)
              have hszE : wi.heap.size ≤ w3.heap.size := by have h1 := hgrow.size; have h2 := u4.size; simp at h1 h2; omega
              have HH := Lib.hid (And.intro hIR (And.intro hX3 (And.intro hG3 hR3))); clear hIR hX3 hG3 hR3
              have HB3 := Lib.hid hb3; clear hb3 o4
              go_wp2
              go_roundw
              case rel => exact ⟨l + 1, _, by omega, by go_num, HB3.out.set 6 _, HH.out.1.put (by simp only; omega) _, HH.out.2.2.1.put_away _ _ (.inr (by simp only; omega)), HH.out.2.2.2.put_away _ _ (.inl (by simp only; omega)), HH.out.2.1.setCell _ (by simp only; omega), by rw [World.size_setCell]; omega⟩
              case measure => simp [intOf]; omega
          · have hlm : l = m := by omega
            subst hlm
            obtain ⟨ca, cc, evc, qc1, qc2, qc3⟩ := hr.own (Nat.le_refl _)
            clear hr
            subst evc
            rw [cleft_length] at qc1 HB
            have HCA := Lib.hid qc3; clear qc3
            have cb5 := HB.out.cell 5 (by simp)
            have cb6 := HB.out.cell 6 (by simp)
            have hI5 : Ints wi (.slice ra k rc) (rleft T k) := ⟨ra, rc, by rw [rleft_length], by rw [rleft_length]; exact qr1, qr2, HRA.out.ints⟩
            have hI6 : Ints wi (.slice ca l cc) (cleft T l) := ⟨ca, cc, by rw [cleft_length], by rw [cleft_length]; exact qc1, qc2, HCA.out.ints⟩
            have HI5 := Lib.hid hI5; clear hI5
            have HI6 := Lib.hid hI6; clear hI6
            obtain ⟨_, k2', e2, p2, q2, gl⟩ := H.out.f2
            simp only [Value.slice.injEq] at e2
            obtain ⟨rfl, e8, rfl⟩ := e2
            clear e8
            obtain ⟨_, k3', e3, p3, q3, gh⟩ := H.out.f3
            simp only [Value.slice.injEq] at e3
            obtain ⟨rfl, e8, rfl⟩ := e3
            clear e8
            have pp2 : k ≤ c2 := by have := D5.out; have := HN.out; omega
            have pp3 : k ≤ c3 := by have h9 := HO.out.rcHi.len; have := HN.out; omega
            have hfin : FillS (w.heap.size + 1) fb wo.heap.size wi.heap.size w wi ⟨a0, c0, a1, c1, a2, c2, a3, c3, ax, cx, ra, rc, ca, cc, rvs⟩ T T.lo (rleft T k) (cleft T l) :=
              ⟨by rw [HN.out, HM.out]; exact HB.out, gl, gh, hxw2, HG.out, HRA.out, HCA.out, ⟨by omega, hfl, hmid, hsz2, Nat.le_refl _⟩,
                ⟨by rw [HN.out]; exact hcx1, hcx2, by rw [HN.out]; exact qr1, qr2, by rw [HM.out]; exact qc1, qc2, by rw [HN.out]; exact pp2, q2, by rw [HN.out]; exact pp3, q3⟩⟩
            have HFIN := Lib.hid hfin; clear hfin gl gh
            have HSB : Hid (startB T = (allIn 0 100000 (rleft T k) && allIn 0 100000 (cleft T l))) := Lib.hid (by unfold startB; rw [HN.out, HM.out])
            cases t1 : allIn 0 100000 (rleft T k)
            · have HST : Hid (startB T = false) := Lib.hid (by rw [HSB.out, t1]; rfl)
              have T1 := Lib.hid t1; clear t1
              go_wp2_with fail
              refine (l1All_b false _ (rleft T k) 0 100000 _ T1.out HI5.out).mono ?_
              rintro e wi ⟨rfl, rfl⟩
              go_wp2
              go_ret2
              exact ⟨fb, wo.heap.size, ⟨a0, c0, a1, c1, a2, c2, a3, c3, ax, cx, ra, rc, ca, cc, rvs⟩, by rw [HST.out] <;> rfl, HFIN.out, hxw2⟩
            · obtain ⟨t2, ht2⟩ : ∃ t2, allIn 0 100000 (cleft T l) = t2 := ⟨_, rfl⟩
              have HST : Hid (startB T = t2) := Lib.hid (by rw [HSB.out, t1, ht2]; rfl)
              have T1 := Lib.hid t1; clear t1
              have T2 := Lib.hid ht2; clear ht2
              go_wp2_with fail
              refine (l1All_b true _ (rleft T k) 0 100000 _ T1.out HI5.out).mono ?_
              rintro e wi ⟨rfl, rfl⟩
              go_wp2_with fail
              refine (l1All_b t2 _ (cleft T l) 0 100000 _ T2.out HI6.out).mono ?_
              rintro e wi ⟨rfl, rfl⟩
              go_wp2
              go_ret2
              exact ⟨fb, wo.heap.size, ⟨a0, c0, a1, c1, a2, c2, a3, c3, ax, cx, ra, rc, ca, cc, rvs⟩, by rw [HST.out] <;> rfl, HFIN.out, hxw2⟩
end Go.Proofs.Ytodnkahnbidgaaa
