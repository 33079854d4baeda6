/- The next flow, the spec's: tNext. -/
import Derived.Test.YtjpomfdmgaambaaNextP
import Derived.Deep.CutRange
import Derived.BigRegion
namespace Go.Proofs.Ytjpomfdmgaambaa
open Go.RowKit
open Fm

def nxL (X : List (List Int)) (m b : Nat) (f : Nat → Nat → Int) (p q : Nat) : Int := if p * m + q < b then elOf X p q else f p q
theorem nxL_step {X : List (List Int)} {m b : Nat} {f : Nat → Nat → Int} {p q a c : Nat} (hq : q < m) (hc : c < m) (hb : a * m + c = b) : (if p = a ∧ q = c then elOf X a c else nxL X m b f p q) = nxL X m (b + 1) f p q := by
  unfold nxL
  by_cases e : p = a ∧ q = c
  · rw [if_pos e, if_pos (by rw [e.1, e.2]; omega), e.1, e.2]
  · rw [if_neg e]
    by_cases h : p * m + q < b
    · rw [if_pos h, if_pos (by omega)]
    · rw [if_neg h, if_neg (fun h2 => e (pos_inj (m := m) hc hq (by omega)))]

theorem World.heap_drew' (w : World) : w.drew.heap = w.heap := rfl
theorem Rc.setEl' {n m : Nat} {X : List (List Int)} (h : Rc n m X) (i j : Nat) (v : Int) : Rc n m (setEl X i j v) := rc_setEl h i j v
set_option maxRecDepth 100000 in
set_option maxHeartbeats 12800000 in
theorem tNext_c (T : Tr) (X : List (List Int)) (a0 a1 a2 a3 ax : Option Addr) (c0 c1 c2 c3 cx n m : Nat) (w : World) (hn : T.rows.length = n) (hm : T.cols.length = m) (h : TrR w (.agg #[.slice a0 n c0, .slice a1 m c1, .slice a2 n c2, .slice a3 n c3]) T) (hX : Grid w (.slice ax n cx) X) (ho : TrOk T) (rc : Rc n m X) (hf : Flow (NetT T) (elOf X)) :
    Calls Try.prog 31 #[.agg #[.slice a0 n c0, .slice a1 m c1, .slice a2 n c2, .slice a3 n c3], .slice ax n cx] w (RetGrid (fun v' => .tuple #[v', .bool (nxB T X)]) w (nxV T X)) := by
  have H := Lib.hid h; clear h
  have HX := Lib.hid hX; clear hX
  have HO := Lib.hid ho; clear ho
  have HRC := Lib.hid rc; clear rc
  have HF := Lib.hid hf; clear hf
  have d1 : 1 ≤ n := by rw [← hn]; exact HO.out.dims.1
  have d2 : n ≤ 8 := by rw [← hn]; exact HO.out.dims.2.1
  have d3 : 1 ≤ m := by rw [← hm]; exact HO.out.dims.2.2.1
  have d4 : m ≤ 8 := by rw [← hm]; exact HO.out.dims.2.2.2.1
  have HRL : Hid (Rc n m T.lo) := Lib.hid (by have := HO.out.rcLo; rwa [hn, hm] at this)
  have HRH : Hid (Rc n m T.hi) := Lib.hid (by have := HO.out.rcHi; rwa [hn, hm] at this)
  have HN := Lib.hid hn; clear hn
  have HM := Lib.hid hm; clear hm
  obtain ⟨N, hN⟩ : ∃ N, n * m = N := ⟨_, rfl⟩
  have hN8 : N ≤ 64 := by rw [← hN]; exact Nat.le_trans (Nat.mul_le_mul d2 d4) (by omega)
  have hN1 : 1 ≤ N := by rw [← hN]; exact Nat.mul_pos d1 d3
  have eN : (n : Int) * (m : Int) = (N : Int) := by rw [← hN]; simp
  have hwN : IntKind.i64.wrap (N : Int) = (N : Int) := IntWalk.i64_in _ (by omega)
  have hwN1 : IntKind.i64.wrap ((N : Int) - 1) = (N : Int) - 1 := IntWalk.i64_in _ (by omega)
  have HNX : Hid (nxV T X = (nxTo T X N).getD [] ∧ nxB T X = (nxTo T X N).isSome) := Lib.hid (by unfold nxV nxB; rw [HN.out, HM.out, hN]; exact ⟨rfl, rfl⟩)
  rw [HNX.out.1, HNX.out.2]
  obtain ⟨R0, hR0⟩ : ∃ R, nxTo T X N = R := ⟨_, rfl⟩
  rw [hR0]
  have HR0 := Lib.hid hR0; clear hR0
  have HNN := Lib.hid hN; clear hN
  have u0 := (Ext.refl w).alloc (.cells #[.slice a0 n c0, .slice a1 m c1, .slice a2 n c2, .slice a3 n c3] 30)
  have b0 := Box.new w 30 #[.slice a0 n c0, .slice a1 m c1, .slice a2 n c2, .slice a3 n c3] rfl
  have k0 := b0.cell 0 (by simp)
  have k1 := b0.cell 1 (by simp)
  obtain ⟨ws, hws⟩ : ∃ ws, w.alloc (.cells #[.slice a0 n c0, .slice a1 m c1, .slice a2 n c2, .slice a3 n c3] 30) = ws := ⟨_, rfl⟩
  have hsz0 : ws.heap.size = w.heap.size + 1 := by rw [← hws]; simp
  rw [hws] at u0 b0 k0 k1
  have HWS := Lib.hid hws; clear hws
  go_enter Try.func31, Try.ntmps31
  go_wp2_with fail
  rw [HWS.out]
  go_quiet (fail)
  go_wp2
  go_loopw [8] (fun v wr => ∃ (kk : Nat) (pv : Int), kk ≤ N ∧ v = .int .i64 pv ∧ pv + 1 = kk ∧ R0 = nxTo T X kk ∧ Ext ws wr) (fun v _ => (intOf v + 1).toNat)
  case atStart => exact ⟨N, (N : Int) - 1, Nat.le_refl _, rfl, by omega, HR0.out.symm, (Ext.refl ws).drewN _⟩
  case round =>
    clear k0 k1
    obtain ⟨kk, pv, hkN, rfl, hpv, hR, hx⟩ := hrel
    obtain ⟨wo, rfl⟩ : ∃ wo : World, wo = wr := ⟨_, rfl⟩
    have HR := Lib.hid hR; clear hR
    rcases kk with _ | k
    · have hpv' : pv = -1 := by omega
      subst hpv'
      have HE : Hid (R0 = none) := Lib.hid HR.out
      go_wp2
      go_ret2
      rw [HE.out]
      exact ⟨_, [], rfl, OwnG.nil, u0.trans hx⟩
    have hpv' : pv = (k : Int) := by omega
    subst hpv'
    have hlt : k < N := by omega
    obtain ⟨i, hi⟩ : ∃ i, k / m = i := ⟨_, rfl⟩
    obtain ⟨j, hj⟩ : ∃ j, k % m = j := ⟨_, rfl⟩
    have hin : i < n := by rw [← hi]; exact Nat.div_lt_of_lt_mul (by rw [Nat.mul_comm, HNN.out]; exact hlt)
    have hjm : j < m := by rw [← hj]; exact Nat.mod_lt _ (by omega)
    have hpos : i * m + j = k := by rw [← hi, ← hj, Nat.mul_comm]; exact Nat.div_add_mod k m
    have q1 : (k : Int) / (m : Int) = (i : Int) := by rw [← hi]; simp
    have q2 : (k : Int).tdiv (m : Int) = (i : Int) := by rw [Int.tdiv_eq_ediv_of_nonneg (by omega)]; exact q1
    have q3 : (k : Int) % (m : Int) = (j : Int) := by rw [← hj]; simp
    have q4 : (k : Int).tmod (m : Int) = (j : Int) := by rw [Int.tmod_eq_emod_of_nonneg (by omega)]; exact q3
    have q5 : IntKind.i64.wrap (i : Int) = (i : Int) := IntWalk.i64_in _ (by omega)
    have q6 : (m : Int) ≠ 0 := by omega
    have q7 : ¬ m = 0 := by omega
    have q8 : 0 < m := by omega
    have q9 : IntKind.i64.wrap ((k : Int) - 1) = (k : Int) - 1 := IntWalk.i64_in _ (by omega)
    have HPOS := Lib.hid hpos; clear hpos hi hj
    have iT : i < T.rows.length := by rw [HN.out]; exact hin
    have jT : j < T.cols.length := by rw [HM.out]; exact hjm
    go_wp2_with fail
    go_quiet (fail)
    obtain ⟨wo1, hw1⟩ : ∃ z, wo.drewN nq = z := ⟨_, rfl⟩
    have hx1 : Ext ws wo1 := by rw [← hw1]; exact hx.drewN nq
    have xw := u0.trans hx1
    have by_ := b0.ext hx1
    have y0 := by_.cell 0 (by simp)
    have y1 := by_.cell 1 (by simp)
    have y2 := by_.cell 2 (by simp)
    have y3 := by_.cell 3 (by simp)
    clear by_
    obtain ⟨_, _, e9, _, _, gx⟩ := HX.out.ext xw
    simp only [Value.slice.injEq] at e9
    obtain ⟨rfl, e8, rfl⟩ := e9
    clear e8
    obtain ⟨bX, oX, aX, cX, rfl, hcX, x1_, x2_, x3_⟩ := gx.at_ (k := i) (by rw [HRC.out.len]; exact hin)
    obtain ⟨b5, o5, rfl, hx5⟩ := x3_ j (by rw [HRC.out.row i hin]; exact hjm)
    rw [HRC.out.row i hin] at hcX x1_
    clear x3_
    have GX := Lib.hid gx; clear gx
    obtain ⟨_, _, e9, _, _, gl⟩ := (H.out.f3).ext xw
    simp only [Value.slice.injEq] at e9
    obtain ⟨rfl, e8, rfl⟩ := e9
    clear e8
    obtain ⟨bl, ol, al, cl, rfl, hcl, l1_, l2_, l3_⟩ := gl.at_ (k := i) (by rw [HO.out.rcHi.len]; exact iT)
    obtain ⟨b6, o6, rfl, hx6⟩ := l3_ j (by rw [HO.out.rcHi.row i iT]; exact jT)
    rw [HO.out.rcHi.row i iT, HM.out] at hcl l1_
    clear l3_ gl
    have q10 : ix (rowAt T.hi i) j = elOf T.hi i j := rfl
    have q11 : ix (rowAt X i) j = elOf X i j := rfl
    rw [q10] at hx6
    rw [q11] at hx5
    clear q10 q11
    have hlo' : elOf T.lo i j ≤ elOf X i j := HF.out.lo i j iT jT
    have hhi' : elOf X i j ≤ elOf T.hi i j := HF.out.hi i j iT jT
    have hbd := HO.out.el iT jT
    by_cases he : elOf X i j = elOf T.hi i j
    · have HNO : Hid (R0 = nxTo T X k) := Lib.hid (by
        rw [HR.out]; exact nx_no (by have := up_none HO.out HF.out iT jT he; rw [HM.out, HPOS.out] at this; exact this))
      rw [he] at hx5
      clear he
      obtain ⟨V, hV⟩ : ∃ V, elOf T.hi i j = V := ⟨_, rfl⟩
      rw [hV] at hx5 hx6
      clear hV
      have heq : (V == V) = true := by simp
      go_wp2_with fail
      try rw [hw1]
      clear hw1
      go_quiet (fail)
      go_wp2
      go_roundw
      case rel => exact ⟨k, (k : Int) - 1, by omega, by go_num, by omega, HNO.out, hx1.drewN _⟩
      case measure => simp [intOf]
    have HUO : Hid (TrOk (upT T X k)) := Lib.hid (by have := up_ok HO.out HF.out iT jT he; rwa [HM.out, HPOS.out] at this)
    obtain ⟨V, hV⟩ : ∃ V, elOf X i j = V := ⟨_, rfl⟩
    obtain ⟨U, hU⟩ : ∃ U, elOf T.hi i j = U := ⟨_, rfl⟩
    rw [hV] at hx5 he hlo' hhi'
    rw [hU] at hx6 he hhi' hbd
    have HV := Lib.hid hV; clear hV
    have HU := Lib.hid hU; clear hU
    have heq : (V == U) = false := by simp [he]
    clear he
    have hwV : IntKind.i64.wrap (V + 1) = V + 1 := IntWalk.i64_in _ (by omega)
    go_wp2_with fail
    try rw [hw1]
    clear hw1
    go_quiet (fail)
    obtain ⟨wd, hwd⟩ : ∃ z, wo1.drewN nq = z := ⟨_, rfl⟩
    have xo1 : Ext wo1 wd := by rw [← hwd]; exact (Ext.refl wo1).drewN nq
    have hxd := hx1.trans xo1
    have xwd := u0.trans hxd
    have z0 := Ext.cell xo1 y0
    have z1 := Ext.cell xo1 y1
    have z2 := Ext.cell xo1 y2
    have z3 := Ext.cell xo1 y3
    have z4 := Ext.cell xo1 hcX
    have z5 := Ext.cell xo1 hx5
    have z6 := Ext.cell xo1 hcl
    have z7 := Ext.cell xo1 hx6
    have HGX := Lib.hid (GX.out.ext xo1)
    clear y0 y1 y2 y3 hcX hx5 hcl hx6 GX xo1
    have HD := Lib.hid (H.out.ext xwd)
    have hMK : ∀ x, Ext wd x → (Ext wd x ∧ x.cell? ⟨w.heap.size, 0, none⟩ = some (.slice a0 n c0) ∧ x.cell? ⟨w.heap.size, 1, none⟩ = some (.slice a1 m c1) ∧ x.cell? ⟨w.heap.size, 2, none⟩ = some (.slice a2 n c2) ∧ x.cell? ⟨w.heap.size, 3, none⟩ = some (.slice (some ⟨bl, ol, none⟩) n c3) ∧ x.cell? ⟨bX, oX + i, none⟩ = some (.slice (some ⟨b5, o5, none⟩) m cX) ∧ x.cell? ⟨b5, o5 + j, none⟩ = some (.int .i64 V) ∧ x.cell? ⟨bl, ol + i, none⟩ = some (.slice (some ⟨b6, o6, none⟩) m cl) ∧ x.cell? ⟨b6, o6 + j, none⟩ = some (.int .i64 U)) :=
      fun x e => ⟨e, e.cell z0, e.cell z1, e.cell z2, e.cell z3, e.cell z4, e.cell z5, e.cell z6, e.cell z7⟩
    have MK := Lib.hid hMK; clear hMK
    have hwsd : w.heap.size + 1 ≤ wd.heap.size := by have := hxd.size; omega
    go_upto_region 7 with fail
    try rw [hwd]
    clear hwd
    go_cut [11] from 25 to 126 (fun s11 wx => ∃ (B l1 h1 l2 h2 : Nat) (a4 a5 : Option Addr) (c4 c5 : Nat) (r4 r5 : List Value), s11 = .pointer (some ⟨B, 0, none⟩) ∧ wd.heap.size ≤ l1 ∧ l1 ≤ h1 ∧ h1 ≤ l2 ∧ l2 ≤ h2 ∧ wd.heap.size ≤ B ∧ (B < l1 ∨ h2 ≤ B) ∧ n ≤ c4 ∧ c4 ≤ 9223372036854775807 ∧ n ≤ c5 ∧ c5 ≤ 9223372036854775807 ∧
      Box wx B 30 #[.slice a0 n c0, .slice a1 m c1, .slice a4 n c4, .slice a5 n c5] ∧ OwnGA l1 h1 wx a4 r4 (setEl T.lo i j (V + 1)) ∧ OwnGA l2 h2 wx a5 r5 (setEl T.hi i j U) ∧ Ext wd wx)
    case first =>
      go_region_held3 (fun x => Ext wd x ∧ x.cell? ⟨w.heap.size, 0, none⟩ = some (.slice a0 n c0) ∧ x.cell? ⟨w.heap.size, 1, none⟩ = some (.slice a1 m c1) ∧ x.cell? ⟨w.heap.size, 2, none⟩ = some (.slice a2 n c2) ∧ x.cell? ⟨w.heap.size, 3, none⟩ = some (.slice (some ⟨bl, ol, none⟩) n c3) ∧ x.cell? ⟨bX, oX + i, none⟩ = some (.slice (some ⟨b5, o5, none⟩) m cX) ∧ x.cell? ⟨b5, o5 + j, none⟩ = some (.int .i64 V) ∧ x.cell? ⟨bl, ol + i, none⟩ = some (.slice (some ⟨b6, o6, none⟩) m cl) ∧ x.cell? ⟨b6, o6 + j, none⟩ = some (.int .i64 U))
        (first | exact MK.out _ (Ext.refl _).drew | exact MK.out _ ((Ext.refl _).drew.trans u4) | exact MK.out _ (((Ext.refl _).drew.trans u4).alloc _) | exact MK.out _ ((Ext.refl _).alloc _).drew | exact MK.out _ ((((Ext.refl _).alloc _).drew).trans u4) | exact MK.out _ (Ext.put4 ((((Ext.refl _).alloc _).drew).trans u4) (Nat.le_refl _) _ _ _ _))
        ((go_at_call 54; (with_reducible refine (tWith_c T a0 a1 a2 (some ⟨bl, ol, none⟩) c0 c1 c2 c3 n m i j (V + 1) U _ HN.out HM.out (HD.out.ext (show Ext wd _ from And.left (by assumption))) HO.out hin hjm).mono ?_); rintro e w4 ⟨a4, a5, c4, c5, mid, r4, r5, rfl, g4, g5, t1, t2, t3, t4, u4⟩; have G4 := Lib.hid g4; clear g4; have G5 := Lib.hid g5; clear g5; try (have bz := ((Box.new wd 30 #[.slice none 0 0, .slice none 0 0, .slice none 0 0, .slice none 0 0] rfl).drew).ext u4; have bf0 := bz.free 0; have bf1 := bz.free 1; have bf2 := bz.free 2; have bf3 := bz.free 3; have bc0 := bz.cell 0 (by simp); have bc1 := bz.cell 1 (by simp); have bc2 := bz.cell 2 (by simp); have bc3 := bz.cell 3 (by simp); clear bz)))
      · have hm1 : wd.heap.size ≤ mid ∧ mid ≤ w4.heap.size := by
          have r1 := G4.out.range (by intro e; have h9 := (HRL.out.setEl' i j (V + 1)).len; rw [e] at h9; simp at h9; omega)
          have r2 := G5.out.range (by intro e; have h9 := (HRH.out.setEl' i j U).len; rw [e] at h9; simp at h9; omega)
          simp only [World.heap_drew'] at r1
          omega
        have hb := Box.new w4 30 #[.slice a0 n c0, .slice a1 m c1, .slice a4 n c4, .slice a5 n c5] rfl
        have ea := (Ext.refl w4).alloc (.cells #[.slice a0 n c0, .slice a1 m c1, .slice a4 n c4, .slice a5 n c5] 30)
        have HA := Lib.hid (And.intro hb (And.intro (G4.out.ext ea) (And.intro (G5.out.ext ea) (((Ext.refl wd).drew.trans u4).trans ea)))); clear hb ea
        go_wp2_with fail
        go_meet
        exact ⟨w4.heap.size, wd.heap.size, mid, mid, w4.heap.size, a4, a5, c4, c5, r4, r5, rfl, Nat.le_refl _, hm1.1, Nat.le_refl _, hm1.2, Nat.le_trans hm1.1 hm1.2, .inr (Nat.le_refl _), t1, t2, t3, t4, HA.out.1, HA.out.2.1, HA.out.2.2.1, HA.out.2.2.2⟩
      · have hm1 : wd.heap.size + 1 ≤ mid ∧ mid ≤ w4.heap.size := by
          have r1 := G4.out.range (by intro e; have h9 := (HRL.out.setEl' i j (V + 1)).len; rw [e] at h9; simp at h9; omega)
          have r2 := G5.out.range (by intro e; have h9 := (HRH.out.setEl' i j U).len; rw [e] at h9; simp at h9; omega)
          simp at r1
          omega
        have ua := ((Ext.refl wd).alloc (.cells #[.slice none 0 0, .slice none 0 0, .slice none 0 0, .slice none 0 0] 30)).drew
        have hx := (ua.trans u4).put4 (B := wd.heap.size) (Nat.le_refl _) (.slice a0 n c0) (.slice a1 m c1) (.slice a4 n c4) (.slice a5 n c5)
        have bz := ((Box.new wd 30 #[.slice none 0 0, .slice none 0 0, .slice none 0 0, .slice none 0 0] rfl).drew).ext u4
        have hb := (((bz.set 0 (.slice a0 n c0)).set 1 (.slice a1 m c1)).set 2 (.slice a4 n c4)).set 3 (.slice a5 n c5)
        have g4 := (G4.out.mono (lo' := wd.heap.size + 1) (by simp) (Nat.le_refl _)).put4 (B := wd.heap.size) (.inl (Nat.lt_succ_self _)) (.slice a0 n c0) (.slice a1 m c1) (.slice a4 n c4) (.slice a5 n c5)
        have g5 := G5.out.put4 (B := wd.heap.size) (.inl (by omega)) (.slice a0 n c0) (.slice a1 m c1) (.slice a4 n c4) (.slice a5 n c5)
        have HA := Lib.hid (And.intro hb (And.intro g4 (And.intro g5 hx))); clear hb g4 g5 hx ua bz
        go_wp2_with fail
        go_meet
        exact ⟨wd.heap.size, wd.heap.size + 1, mid, mid, w4.heap.size, a4, a5, c4, c5, r4, r5, rfl, Nat.le_succ _, hm1.1, Nat.le_refl _, hm1.2, Nat.le_refl _, .inl (Nat.lt_succ_self _), t1, t2, t3, t4, HA.out.1, HA.out.2.1, HA.out.2.2.1, HA.out.2.2.2⟩
    case rest =>
      obtain ⟨B, l1, h1, l2, h2, a4, a5, c4, c5, r4, r5, rfl, e1, e2, e3, e4, eB, eBB, t1, t2, t3, t4, hb, g4, g5, hxc⟩ := hcut
      obtain ⟨wF, rfl⟩ : ∃ wF : World, wF = wc := ⟨_, rfl⟩
      clear z0 z1 z2 z3 z4 z5 z6 z7
      have hll : (setEl T.lo i j (V + 1)).length = n := (HRL.out.setEl' i j (V + 1)).len
      have hlh : (setEl T.hi i j U).length = n := (HRH.out.setEl' i j U).len
      obtain ⟨bp, op, rfl, _, _, _, _, _⟩ := g4.at_ (k := 0) (by omega)
      obtain ⟨bq, oq, rfl, _, _, _, _, _⟩ := g5.at_ (k := 0) (by omega)
      clear hll hlh
      have HG4 := Lib.hid g4; clear g4
      have HG5 := Lib.hid g5; clear g5
      go_wp2
      go_loopw [12] (fun v wr => ∃ (b : Nat) (zl zh : List (List Int)), b ≤ k ∧ v = .int .i64 b ∧ OwnGA l1 h1 wr (some ⟨bp, op, none⟩) r4 zl ∧ Rc n m zl ∧ (∀ p q, p < n → q < m → elOf zl p q = nxL X m b (elOf (setEl T.lo i j (V + 1))) p q) ∧ OwnGA l2 h2 wr (some ⟨bq, oq, none⟩) r5 zh ∧ Rc n m zh ∧ (∀ p q, p < n → q < m → elOf zh p q = nxL X m b (elOf (setEl T.hi i j U)) p q) ∧ Box wr B 30 #[.slice a0 n c0, .slice a1 m c1, .slice (some ⟨bp, op, none⟩) n c4, .slice (some ⟨bq, oq, none⟩) n c5] ∧ Ext wd wr) (fun v _ => k - (intOf v).toNat)
      case atStart => exact ⟨0, _, _, Nat.zero_le _, rfl, HG4.out, HRL.out.setEl' i j (V + 1), fun p q _ _ => by simp [nxL], HG5.out, HRH.out.setEl' i j U, fun p q _ _ => by simp [nxL], hb, hxc⟩
      case round =>
        clear hb hxc HG4 HG5
        obtain ⟨b, zl, zh, hbk, rfl, g4, rcl, hel, g5, rch, heh, hb, hxi⟩ := hrel
        obtain ⟨wi, rfl⟩ : ∃ wi : World, wi = wr := ⟨_, rfl⟩
        have HG4 := Lib.hid g4; clear g4
        have HG5 := Lib.hid g5; clear g5
        have RCL := Lib.hid rcl; clear rcl
        have RCH := Lib.hid rch; clear rch
        have HEL := Lib.hid hel; clear hel
        have HEH := Lib.hid heh; clear heh
        have xwi := xwd.trans hxi
        by_cases hlt2 : b < k
        · have hbN : b < N := by omega
          obtain ⟨p, hp⟩ : ∃ p, b / m = p := ⟨_, rfl⟩
          obtain ⟨q, hq⟩ : ∃ q, b % m = q := ⟨_, rfl⟩
          have hpn : p < n := by rw [← hp]; exact Nat.div_lt_of_lt_mul (by rw [Nat.mul_comm, HNN.out]; exact hbN)
          have hqm : q < m := by rw [← hq]; exact Nat.mod_lt _ (by omega)
          have hpos2 : p * m + q = b := by rw [← hp, ← hq, Nat.mul_comm]; exact Nat.div_add_mod b m
          have s1 : (b : Int) / (m : Int) = (p : Int) := by rw [← hp]; simp
          have s2 : (b : Int).tdiv (m : Int) = (p : Int) := by rw [Int.tdiv_eq_ediv_of_nonneg (by omega)]; exact s1
          have s3 : (b : Int) % (m : Int) = (q : Int) := by rw [← hq]; simp
          have s4 : (b : Int).tmod (m : Int) = (q : Int) := by rw [Int.tmod_eq_emod_of_nonneg (by omega)]; exact s3
          have s5 : IntKind.i64.wrap (p : Int) = (p : Int) := IntWalk.i64_in _ (by omega)
          have HPOS2 := Lib.hid hpos2; clear hpos2 hp hq
          obtain ⟨E, hE⟩ : ∃ E, elOf X p q = E := ⟨_, rfl⟩
          have HE := Lib.hid hE
          have i1 : (0 : Int) ≤ (p : Int) := by omega
          have i2 : (p : Int) < (n : Int) := by omega
          have i3 : (0 : Int) ≤ (q : Int) := by omega
          have i4 : (q : Int) < (m : Int) := by omega
          -- X's element
          obtain ⟨b7, o7, ax7, cx7, e7, hc7, _, _, x37⟩ := (HGX.out.ext hxi).at_ (k := p) (by rw [HRC.out.len]; exact hpn)
          simp only [Option.some.injEq, Addr.mk.injEq, and_true] at e7
          obtain ⟨rfl, rfl⟩ := e7
          obtain ⟨b8, o8, rfl, hx8⟩ := x37 q (by rw [HRC.out.row p hpn]; exact hqm)
          rw [HRC.out.row p hpn] at hc7
          have q11 : ix (rowAt X p) q = elOf X p q := rfl
          rw [q11, hE] at hx8
          clear x37 q11 hE
          -- the element of lo
          have hpl : p < zl.length := by rw [RCL.out.len]; exact hpn
          have hph : p < zh.length := by rw [RCH.out.len]; exact hpn
          obtain ⟨_, _, e9, _, _, _, hcp, _⟩ := HG4.out.at_ (k := p) hpl
          simp only [Option.some.injEq, Addr.mk.injEq, and_true] at e9
          obtain ⟨rfl, rfl⟩ := e9
          obtain ⟨ar4, cr4, ev4, _, _⟩ := HG4.out.rowForm (k := p) hpl
          have hst4 := HG4.out.store (k := p) (l := q) hpl (by rw [RCL.out.row p hpn]; exact hqm) ev4
          rw [ev4, RCL.out.row p hpn] at hcp
          obtain ⟨bs, os, e10, m1, m2, _, hce, hfe, st4⟩ := hst4
          subst e10
          have G4' := Lib.hid ((st4 E).ext (Ext.refl _).drew); clear st4 ev4
          have R4' := Lib.hid (RCL.out.set (u := p) (v := q) E)
          have E4' : Hid (∀ a c, a < n → c < m → elOf (zl.set p ((rowAt zl p).set q E)) a c = nxL X m (b + 1) (elOf (setEl T.lo i j (V + 1))) a c) := Lib.hid (fun a c ha hc => by
            rw [RCL.out.el_set hpn hqm, HEL.out a c ha hc, ← HE.out]; exact nxL_step hc hqm HPOS2.out)
          have kb2 := hb.cell 2 (by simp)
          go_wp2_with fail
          go_region
          obtain ⟨w6, hw6⟩ : ∃ w6, (wi.setCell ⟨bs, os + q, none⟩ (.int .i64 E)).drew = w6 := ⟨_, rfl⟩
          rw [hw6]
          rw [hw6] at G4'
          have U6 : Upd (fun z => z = bs) wi w6 := by rw [← hw6]; exact ((Upd.refl (S := fun z => z = bs) wi).setCell (a := ⟨bs, os + q, none⟩) _ (fun _ => rfl)).drew
          clear hw6 hce hfe hcp hc7 hx8 kb2
          have hb6 := hb.upd U6 (by omega)
          have hx6 : Ext wd w6 := hxi.of_upd U6 (fun z hz => by omega)
          have G5i := Lib.hid (HG5.out.away U6 (fun z hz => .inl (by omega)))
          obtain ⟨b7, o7, ax7, cx7, e7, hc7, _, _, x37⟩ := (HGX.out.ext hx6).at_ (k := p) (by rw [HRC.out.len]; exact hpn)
          simp only [Option.some.injEq, Addr.mk.injEq, and_true] at e7
          obtain ⟨rfl, rfl⟩ := e7
          obtain ⟨b8, o8, rfl, hx8⟩ := x37 q (by rw [HRC.out.row p hpn]; exact hqm)
          rw [HRC.out.row p hpn] at hc7
          have q11 : ix (rowAt X p) q = elOf X p q := rfl
          rw [q11, HE.out] at hx8
          clear x37 q11
          obtain ⟨_, _, e9, _, _, _, hcp, _⟩ := G5i.out.at_ (k := p) hph
          simp only [Option.some.injEq, Addr.mk.injEq, and_true] at e9
          obtain ⟨rfl, rfl⟩ := e9
          obtain ⟨ar5, cr5, ev5, _, _⟩ := G5i.out.rowForm (k := p) hph
          have hst5 := G5i.out.store (k := p) (l := q) hph (by rw [RCH.out.row p hpn]; exact hqm) ev5
          rw [ev5, RCH.out.row p hpn] at hcp
          obtain ⟨bt, ot, e10, m3, m4, _, hce, hfe, st5⟩ := hst5
          subst e10
          have G5' := Lib.hid ((st5 E).ext (Ext.refl _).drew); clear st5 ev5
          have R5' := Lib.hid (RCH.out.set (u := p) (v := q) E)
          have E5' : Hid (∀ a c, a < n → c < m → elOf (zh.set p ((rowAt zh p).set q E)) a c = nxL X m (b + 1) (elOf (setEl T.hi i j U)) a c) := Lib.hid (fun a c ha hc => by
            rw [RCH.out.el_set hpn hqm, HEH.out a c ha hc, ← HE.out]; exact nxL_step hc hqm HPOS2.out)
          have kb3 := hb6.cell 3 (by simp)
          go_wp2_with fail
          go_region
          obtain ⟨w7, hw7⟩ : ∃ w7, (w6.setCell ⟨bt, ot + q, none⟩ (.int .i64 E)).drew = w7 := ⟨_, rfl⟩
          rw [hw7]
          rw [hw7] at G5'
          have U7 : Upd (fun z => z = bt) w6 w7 := by rw [← hw7]; exact ((Upd.refl (S := fun z => z = bt) w6).setCell (a := ⟨bt, ot + q, none⟩) _ (fun _ => rfl)).drew
          clear hw7 hce hfe hcp hc7 hx8 kb3
          have hb7 := hb6.upd U7 (by omega)
          have hx7 : Ext wd w7 := hx6.of_upd U7 (fun z hz => by omega)
          have G4'' := Lib.hid (G4'.out.away U7 (fun z hz => .inr (by omega)))
          go_wp2
          go_roundw
          case rel => exact ⟨b + 1, _, _, by omega, by go_num, G4''.out, R4'.out, E4'.out, G5'.out, R5'.out, E5'.out, hb7, hx7⟩
          case measure => simp [intOf]; omega
        · have hbk2 : b = k := by omega
          have HZL : Hid (zl = (upT T X k).lo) := Lib.hid (by
            show zl = mapG (upLo X T.cols.length k) T.lo
            refine rc_ext RCL.out (mapG_rcN HRL.out _) (fun p q hp hq => ?_)
            rw [HEL.out p q hp hq, el_mapGN HRL.out _ hp hq, HM.out, hbk2]
            unfold nxL upLo
            by_cases h1 : p * m + q < k
            · rw [if_pos h1, if_pos h1]
            · rw [if_neg h1, if_neg h1, el_setEl HRL.out hin hjm]
              by_cases h2 : p = i ∧ q = j
              · rw [if_pos h2, if_pos (by rw [h2.1, h2.2]; exact HPOS.out), h2.1, h2.2, HV.out]
              · rw [if_neg h2, if_neg (fun e => h2 (pos_inj (m := m) hjm hq (by rw [e, HPOS.out])))])
          have HZH : Hid (zh = (upT T X k).hi) := Lib.hid (by
            show zh = mapG (upHi X T.cols.length k) T.hi
            refine rc_ext RCH.out (mapG_rcN HRH.out _) (fun p q hp hq => ?_)
            rw [HEH.out p q hp hq, el_mapGN HRH.out _ hp hq, HM.out, hbk2]
            unfold nxL upHi
            by_cases h1 : p * m + q < k
            · rw [if_pos h1, if_pos h1]
            · rw [if_neg h1, if_neg h1, el_setEl HRH.out hin hjm]
              by_cases h2 : p = i ∧ q = j
              · rw [if_pos h2, h2.1, h2.2, HU.out]
              · rw [if_neg h2])
          have HTR : Hid (TrR wi (.agg #[.slice a0 n c0, .slice a1 m c1, .slice (some ⟨bp, op, none⟩) n c4, .slice (some ⟨bq, oq, none⟩) n c5]) (upT T X k)) := Lib.hid
            ⟨_, _, _, _, rfl, H.out.f0.ext xwi, H.out.f1.ext xwi, ⟨some ⟨bp, op, none⟩, c4, by rw [← HZL.out, RCL.out.len], by rw [← HZL.out, RCL.out.len]; exact t1, t2, by rw [← HZL.out]; exact HG4.out.grid⟩, ⟨some ⟨bq, oq, none⟩, c5, by rw [← HZH.out, RCH.out.len], by rw [← HZH.out, RCH.out.len]; exact t3, t4, by rw [← HZH.out]; exact HG5.out.grid⟩⟩
          have kb0 := hb.cell 0 (by simp)
          have kb1 := hb.cell 1 (by simp)
          have kb2 := hb.cell 2 (by simp)
          have kb3 := hb.cell 3 (by simp)
          have hsz := xwi.size
          have hsx := hxd.trans hxi
          cases hfb : feasB (upT T X k)
          · have HNO : Hid (R0 = nxTo T X k) := Lib.hid (by rw [HR.out]; exact nx_no hfb)
            have HFB := Lib.hid hfb; clear hfb
            go_wp2_with fail
            refine (tFirst_c _ _ _ HTR.out HUO.out).mono ?_
            rw [HFB.out]
            rintro e w8 ⟨v8, r8, rfl, o9, u8⟩
            clear o9
            go_wp2
            go_roundw
            case rel => exact ⟨k, (k : Int) - 1, by omega, by go_num, by omega, HNO.out, hsx.trans u8⟩
            case measure => simp [intOf]
          · have HYES : Hid (R0 = some (firstV (upT T X k))) := Lib.hid (by rw [HR.out]; exact nx_yes hfb)
            have HFB := Lib.hid hfb; clear hfb
            go_wp2_with fail
            refine (tFirst_c _ _ _ HTR.out HUO.out).mono ?_
            rw [HFB.out]
            rintro e w8 ⟨v8, r8, rfl, o9, u8⟩
            have O9 := Lib.hid o9; clear o9
            go_wp2
            go_ret2
            rw [HYES.out]
            exact ⟨v8, r8, rfl, O9.out.mono hsz (Nat.le_refl _), xwi.trans u8⟩
end Go.Proofs.Ytjpomfdmgaambaa
