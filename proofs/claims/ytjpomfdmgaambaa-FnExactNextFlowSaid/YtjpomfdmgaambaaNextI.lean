/- The next flow, the program's: nextFlow. -/
import Derived.Test.YtjpomfdmgaambaaNextP
namespace Go.Proofs.Ytjpomfdmgaambaa
open Go.RowKit
open Fm

theorem residual_n (v : Value) (T : Tr) (v2 : Value) (x : List (List Int)) (fixed : Int) (n m : Nat) (w : World) (hn : T.rows.length = n) (hm : T.cols.length = m) (h : TrR w v T) (h2 : Grid w v2 x) (ho : TrOk T) (hx : Within T x) (hf : -1 ≤ fixed ∧ fixed ≤ 1000) :
    Calls Try.prog 60 #[v, v2, .int .i64 fixed] w fun e w' => ∃ (ao : Option Addr) (rvs : List Value) (R : List (List Int)), e = .returned (.slice ao (n + m) (n + m)) ∧ OwnGA w.heap.size w'.heap.size w' ao rvs R ∧ Sq (n + m) R ∧
      (∀ a b, a < n + m → b < n + m → elOf R a b = resD n (elOf T.lo) (elOf T.hi) (elOf x) (pastB m fixed) a b) ∧ (∀ u v, u < n + m → v < n + m → 0 ≤ elOf R u v ∧ elOf R u v ≤ 1000000000) ∧ Ext w w' := by
  subst hn hm
  refine (residual_c v T v2 x fixed w h h2 ho hx hf).mono ?_
  rintro e w' ⟨ao, rvs, R, rfl, g, s, l, u⟩
  exact ⟨ao, rvs, R, rfl, g, s, l, fun u v hu hv => by rw [l u v hu hv]; exact resD_bound ho hx _ hu hv, u⟩
theorem restore_n (v : Value) (T : Tr) (v2 : Value) (x : List (List Int)) (v3 : Value) (R : List (List Int)) (fixed : Int) (n m : Nat) (w : World) (hn : T.rows.length = n) (hm : T.cols.length = m) (h : TrR w v T) (h2 : Grid w v2 x) (h3 : Grid w v3 R) (ho : TrOk T) (hx : Rc n m x)
    (hR : Sq (n + m) R) (hb : ∀ i j, i < n → j < m → -1000000000 ≤ elOf R i (n + j) ∧ elOf R i (n + j) ≤ 1000000000000) (hf : -1 ≤ fixed ∧ fixed ≤ 1000) :
    Calls Try.prog 62 #[v, v2, v3, .int .i64 fixed] w fun e w' => ∃ (v' : Value) (rvs : List Value) (X : List (List Int)), e = .returned v' ∧ OwnG w.heap.size w'.heap.size w' v' rvs X ∧ Rc n m X ∧
      (∀ i j, i < n → j < m → elOf X i j = restD n (elOf T.hi) (elOf x) (elOf R) (pastB m fixed) i j) ∧ Ext w w' := by
  subst hn hm
  exact restore_c v T v2 x v3 R fixed w h h2 h3 ho hx ⟨by rw [hR.len]; omega, fun i hi => by rw [hR.row i (by omega)]; exact Nat.le_refl _⟩ hb hf

set_option maxRecDepth 100000 in
set_option maxHeartbeats 6400000 in
theorem nextFlow_c (T : Tr) (X : List (List Int)) (a0 a1 a2 a3 ax : Option Addr) (c0 c1 c2 c3 cx n m : Nat) (w : World) (hn : T.rows.length = n) (hm : T.cols.length = m) (h : TrR w (.agg #[.slice a0 n c0, .slice a1 m c1, .slice a2 n c2, .slice a3 n c3]) T) (hX : Grid w (.slice ax n cx) X) (ho : TrOk T) (rc : Rc n m X) (hf : Flow (NetT T) (elOf X)) :
    Calls Try.prog 34 #[.agg #[.slice a0 n c0, .slice a1 m c1, .slice a2 n c2, .slice a3 n c3], .slice ax n cx] w fun e w' => ∃ (v' : Value) (rvs : List Value), e = .returned v' ∧ OwnG w.heap.size w'.heap.size w' v' rvs (nxV T X) ∧ Ext w w' ∧ ((nxB T X = false ∧ v' = .slice none 0 0) ∨ (nxB T X = true ∧ ∃ b o n cap, v' = .slice (some ⟨b, o, none⟩) n cap)) := by
  have H := Lib.hid h; clear h
  have HX := Lib.hid hX; clear hX
  have HO := Lib.hid ho; clear ho
  have HRC := Lib.hid rc; clear rc
  have HF := Lib.hid hf; clear hf
  have HW := Lib.hid (flow_within (by rw [hn, hm]; exact HRC.out) HF.out)
  have d1 : 1 ≤ n := by rw [← hn]; exact HO.out.dims.1
  have d2 : n ≤ 8 := by rw [← hn]; exact HO.out.dims.2.1
  have d3 : 1 ≤ m := by rw [← hm]; exact HO.out.dims.2.2.1
  have d4 : m ≤ 8 := by rw [← hm]; exact HO.out.dims.2.2.2.1
  have HN := Lib.hid hn; clear hn
  have HM := Lib.hid hm; clear hm
  obtain ⟨N, hN⟩ : ∃ N, n * m = N := ⟨_, rfl⟩
  have hN8 : N ≤ 64 := by rw [← hN]; exact Nat.le_trans (Nat.mul_le_mul d2 d4) (by omega)
  have hN1 : 1 ≤ N := by rw [← hN]; exact Nat.mul_pos d1 d3
  have eN : (n : Int) * (m : Int) = (N : Int) := by rw [← hN]; simp
  have hwN : IntKind.i64.wrap (N : Int) = (N : Int) := IntWalk.i64_in _ (by omega)
  have hwN1 : IntKind.i64.wrap ((N : Int) - 1) = (N : Int) - 1 := IntWalk.i64_in _ (by omega)
  have HNX : Hid (nxV T X = (nxTo T X N).getD [] ∧ nxB T X = (nxTo T X N).isSome) := Lib.hid (by unfold nxV nxB; rw [HN.out, HM.out, hN]; exact ⟨rfl, rfl⟩)
  rw [HNX.out.1, HNX.out.2]
  obtain ⟨R0, hR0⟩ : ∃ R, nxTo T X N = R := ⟨_, rfl⟩
  rw [hR0]
  have HR0 := Lib.hid hR0; clear hR0
  have HNN := Lib.hid hN; clear hN
  have u0 := (Ext.refl w).alloc (.cells #[.slice a0 n c0, .slice a1 m c1, .slice a2 n c2, .slice a3 n c3] 30)
  have b0 := Box.new w 30 #[.slice a0 n c0, .slice a1 m c1, .slice a2 n c2, .slice a3 n c3] rfl
  have k0 := b0.cell 0 (by simp)
  have k1 := b0.cell 1 (by simp)
  obtain ⟨ws, hws⟩ : ∃ ws, w.alloc (.cells #[.slice a0 n c0, .slice a1 m c1, .slice a2 n c2, .slice a3 n c3] 30) = ws := ⟨_, rfl⟩
  have hsz0 : ws.heap.size = w.heap.size + 1 := by rw [← hws]; simp
  rw [hws] at u0 b0 k0 k1
  have HWS := Lib.hid hws; clear hws
  go_enter Try.func34, Try.ntmps34
  go_wp2_with fail
  rw [HWS.out]
  go_quiet (fail)
  go_wp2
  go_loopw [7] (fun v wr => ∃ (kk : Nat) (pv : Int), kk ≤ N ∧ v = .int .i64 pv ∧ pv + 1 = kk ∧ R0 = nxTo T X kk ∧ Ext ws wr) (fun v _ => (intOf v + 1).toNat)
  case atStart => exact ⟨N, (N : Int) - 1, Nat.le_refl _, rfl, by omega, HR0.out.symm, (Ext.refl ws).drewN _⟩
  case round =>
    clear k0 k1
    obtain ⟨kk, pv, hkN, rfl, hpv, hR, hx⟩ := hrel
    obtain ⟨wo, rfl⟩ : ∃ wo : World, wo = wr := ⟨_, rfl⟩
    have HR := Lib.hid hR; clear hR
    rcases kk with _ | k
    · have hpv' : pv = -1 := by omega
      subst hpv'
      have HE : Hid (R0 = none) := Lib.hid HR.out
      go_wp2
      go_ret
      rw [HE.out]
      exact ⟨_, [], rfl, OwnG.nil, u0.trans hx, .inl ⟨rfl, rfl⟩⟩
    have hpv' : pv = (k : Int) := by omega
    subst hpv'
    have by_ := b0.ext hx
    have y0 := by_.cell 0 (by simp)
    have y1 := by_.cell 1 (by simp)
    have y2 := by_.cell 2 (by simp)
    have y3 := by_.cell 3 (by simp)
    have xw := u0.trans hx
    have hlt : k < N := by omega
    obtain ⟨i, hi⟩ : ∃ i, k / m = i := ⟨_, rfl⟩
    obtain ⟨j, hj⟩ : ∃ j, k % m = j := ⟨_, rfl⟩
    have hin : i < n := by rw [← hi]; exact Nat.div_lt_of_lt_mul (by rw [Nat.mul_comm, HNN.out]; exact hlt)
    have hjm : j < m := by rw [← hj]; exact Nat.mod_lt _ (by omega)
    have hpos : i * m + j = k := by rw [← hi, ← hj, Nat.mul_comm]; exact Nat.div_add_mod k m
    have q1 : (k : Int) / (m : Int) = (i : Int) := by rw [← hi]; simp
    have q2 : (k : Int).tdiv (m : Int) = (i : Int) := by rw [Int.tdiv_eq_ediv_of_nonneg (by omega)]; exact q1
    have q3 : (k : Int) % (m : Int) = (j : Int) := by rw [← hj]; simp
    have q4 : (k : Int).tmod (m : Int) = (j : Int) := by rw [Int.tmod_eq_emod_of_nonneg (by omega)]; exact q3
    have q5 : IntKind.i64.wrap (i : Int) = (i : Int) := IntWalk.i64_in _ (by omega)
    have q6 : (m : Int) ≠ 0 := by omega
    have q7 : ¬ m = 0 := by omega
    have q8 : 0 < m := by omega
    have q9 : IntKind.i64.wrap ((k : Int) - 1) = (k : Int) - 1 := IntWalk.i64_in _ (by omega)
    have HPOS := Lib.hid hpos; clear hpos hi hj
    have iT : i < T.rows.length := by rw [HN.out]; exact hin
    have jT : j < T.cols.length := by rw [HM.out]; exact hjm
    obtain ⟨_, _, e9, _, _, gx⟩ := HX.out.ext xw
    simp only [Value.slice.injEq] at e9
    obtain ⟨rfl, e8, rfl⟩ := e9
    clear e8
    obtain ⟨bX, oX, aX, cX, rfl, hcX, x1_, x2_, x3_⟩ := gx.at_ (k := i) (by rw [HRC.out.len]; exact hin)
    obtain ⟨b5, o5, rfl, hx5⟩ := x3_ j (by rw [HRC.out.row i hin]; exact hjm)
    rw [HRC.out.row i hin] at hcX x1_
    clear x3_ gx
    obtain ⟨_, _, e9, _, _, gl⟩ := (H.out.f3).ext xw
    simp only [Value.slice.injEq] at e9
    obtain ⟨rfl, e8, rfl⟩ := e9
    clear e8
    obtain ⟨bl, ol, al, cl, rfl, hcl, l1_, l2_, l3_⟩ := gl.at_ (k := i) (by rw [HO.out.rcHi.len]; exact iT)
    obtain ⟨b6, o6, rfl, hx6⟩ := l3_ j (by rw [HO.out.rcHi.row i iT]; exact jT)
    rw [HO.out.rcHi.row i iT, HM.out] at hcl l1_
    clear l3_ gl
    have q10 : ix (rowAt T.hi i) j = elOf T.hi i j := rfl
    have q11 : ix (rowAt X i) j = elOf X i j := rfl
    rw [q10] at hx6
    rw [q11] at hx5
    clear q10 q11
    have hlo' : elOf T.lo i j ≤ elOf X i j := HF.out.lo i j iT jT
    have hhi' : elOf X i j ≤ elOf T.hi i j := HF.out.hi i j iT jT
    have hbd := HO.out.el iT jT
    by_cases he : elOf X i j = elOf T.hi i j
    · have HNO : Hid (R0 = nxTo T X k) := Lib.hid (by
        rw [HR.out]; exact nx_no (by have := up_none HO.out HF.out iT jT he; rw [HM.out, HPOS.out] at this; exact this))
      rw [he] at hx5
      clear he
      obtain ⟨V, hV⟩ : ∃ V, elOf T.hi i j = V := ⟨_, rfl⟩
      rw [hV] at hx5 hx6
      clear hV
      have heq : (V == V) = true := by simp
      go_wp2_with fail
      go_quiet (fail)
      go_wp2_with fail
      go_quiet (fail)
      go_wp2
      go_roundw
      case rel => exact ⟨k, (k : Int) - 1, by omega, by go_num, by omega, HNO.out, hx.drewN _⟩
      case measure => simp [intOf]
    have HNE := Lib.hid he
    obtain ⟨V, hV⟩ : ∃ V, elOf X i j = V := ⟨_, rfl⟩
    obtain ⟨U, hU⟩ : ∃ U, elOf T.hi i j = U := ⟨_, rfl⟩
    rw [hV] at hx5 he hlo' hhi'
    rw [hU] at hx6 he hhi' hbd
    have HV := Lib.hid hV; clear hV hU
    have heq : (V == U) = false := by simp [he]
    clear he
    obtain ⟨q, hq⟩ : ∃ q, n + j = q := ⟨_, rfl⟩
    have hqN : q < n + m := by omega
    have hqi : q ≠ i := by omega
    have HQ := Lib.hid hq
    have eq1 : (n : Int) + (j : Int) = (q : Int) := by omega
    have hw1 : IntKind.i64.wrap (q : Int) = (q : Int) := IntWalk.i64_in _ (by omega)
    clear hq
    have hN18 : n + m ≤ 18 := by omega
    have hiN : i < n + m := by omega
    have hcapN : n + m ≤ n + m ∧ n + m ≤ 9223372036854775807 := by omega
    have hwV : IntKind.i64.wrap (V + 1) = V + 1 := IntWalk.i64_in _ (by omega)
    have HIT := Lib.hid iT; clear iT
    have HJT := Lib.hid jT; clear jT
    go_wp2_with fail
    go_quiet (fail)
    go_wp2_with fail
    go_quiet (fail)
    go_wp2_with fail
    refine (residual_n _ T _ X (k : Int) n m _ HN.out HM.out (H.out.ext (xw.drewN _)) (HX.out.ext (xw.drewN _)) HO.out HW.out ⟨by omega, by omega⟩).mono ?_
    rintro e w1 ⟨ao, rvs, R, rfl, g1, s1, l1, hb1, u1'⟩
    have u1 : Ext wo w1 := ((Ext.refl wo).drewN _).trans u1'
    have G1 := Lib.hid (g1.mono (lo' := w.heap.size + 1) (by have := b0.lt; have := hx.size; simp only [World.heap_drewN]; omega) (Nat.le_refl _)); clear g1 u1'
    have S1 := Lib.hid s1; clear s1
    have L1 := Lib.hid l1; clear l1
    have HB1 := Lib.hid hb1; clear hb1
    have z0 := Ext.cell u1 y0
    have z1 := Ext.cell u1 y1
    have z2 := Ext.cell u1 y2
    have z3 := Ext.cell u1 y3
    clear y0 y1 y2 y3 hcX hx5 hcl hx6
    go_wp2_with fail
    refine (push_c (w.heap.size + 1) w1.heap.size ao (n + m) rvs R (n + m) q i 1 w1 G1.out S1.out hcapN hN18 hqN hiN hqi HB1.out (by omega) (Nat.le_refl _)).mono ?_
    rintro e w2 ⟨sent, R2, rfl, g2, s2, p2, U2⟩
    have G2 := Lib.hid g2; clear g2
    have S2 := Lib.hid s2; clear s2
    have P2 := Lib.hid p2; clear p2
    have hsw := b0.lt
    have by2 := (b0.ext (hx.trans u1)).upd U2 (by omega)
    have xw2 : Ext w w2 := (xw.trans u1).of_upd U2 (fun b hb => by omega)
    have xs2 : Ext ws w2 := (hx.trans u1).of_upd U2 (fun b hb => by omega)
    have HPL : Hid (Pushed (T.rows.length + T.cols.length) (resD T.rows.length (elOf T.lo) (elOf T.hi) (elOf X) (pastB T.cols.length ((i * T.cols.length + j : Nat) : Int))) (T.rows.length + j) i 1 sent (elOf R2)) := Lib.hid (by
      rw [HN.out, HM.out, HQ.out, HPOS.out]
      exact P2.out.congr hqN (fun u v hu hv => (L1.out u v hu hv).symm) (fun _ _ _ _ => rfl))
    have hcase := next_plain HO.out HF.out HIT.out HJT.out HNE.out HPL.out
    have x0 := by2.cell 0 (by simp)
    have x1 := by2.cell 1 (by simp)
    have x2 := by2.cell 2 (by simp)
    have x3 := by2.cell 3 (by simp)
    clear z0 z1 z2 z3
    rcases hcase with ⟨rfl, hno⟩ | ⟨rfl, hyes, hfl⟩
    · have HNO : Hid (R0 = nxTo T X k) := Lib.hid (by
        rw [HR.out]; exact nx_no (by rw [HM.out, HPOS.out] at hno; exact hno))
      clear hno
      go_wp2
      go_roundw
      case rel => exact ⟨k, (k : Int) - 1, by omega, by go_num, by omega, HNO.out, xs2⟩
      case measure => simp [intOf]
    have HYES : Hid (R0 = some (firstV (upT T X k))) := Lib.hid (by
      rw [HR.out]; exact nx_yes (by rw [HM.out, HPOS.out] at hyes; exact hyes))
    clear hyes
    have HFL := Lib.hid hfl; clear hfl
    have HGR : Hid (Grid w2 (.slice ao (n + m) (n + m)) R2) := Lib.hid ⟨ao, n + m, by rw [S2.out.len], by rw [S2.out.len]; exact Nat.le_refl _, by omega, G2.out.grid⟩
    have HB2 : Hid (∀ a b, a < n → b < m → -1000000000 ≤ elOf R2 a (n + b) ∧ elOf R2 a (n + b) ≤ 1000000000000) := Lib.hid (fun a b ha hb => by
      have h1 := P2.out.nonneg a (n + b) (by omega) (by omega)
      have h2 := P2.out.nonneg (n + b) a (by omega) (by omega)
      have h3 := P2.out.pair a (n + b) (by omega) (by omega)
      have h4 := HB1.out a (n + b) (by omega) (by omega)
      have h5 := HB1.out (n + b) a (by omega) (by omega)
      omega)
    go_wp2_with fail
    refine (restore_n _ T _ X _ R2 (k : Int) n m w2 HN.out HM.out (H.out.ext xw2) (HX.out.ext xw2) HGR.out HO.out HRC.out S2.out HB2.out ⟨by omega, by omega⟩).mono ?_
    rintro e w3 ⟨v3, r3, Y, rfl, o3, rc3, el3, u3⟩
    have HEL := Lib.hid el3; clear el3
    have HR3 := Lib.hid rc3; clear rc3
    obtain ⟨ay, cy, rfl, t1, t2, gy⟩ := o3
    rw [HR3.out.len] at t1 ⊢
    have GY := Lib.hid gy; clear gy
    obtain ⟨bg, og, rfl, _, _, _, hcp, _⟩ := GY.out.at_ (k := i) (by rw [HR3.out.len]; exact hin)
    obtain ⟨ap, cp, evp, ip1, ip2⟩ := GY.out.rowForm (k := i) (by rw [HR3.out.len]; exact hin)
    have hst := GY.out.store (k := i) (l := j) (by rw [HR3.out.len]; exact hin) (by rw [HR3.out.row i hin]; exact hjm) evp
    rw [evp, HR3.out.row i hin] at hcp
    rw [HR3.out.row i hin] at ip1
    obtain ⟨bp, op, q12, lp1, lp2, lp3, hce3, hfe, st⟩ := hst
    subst q12
    have eY : ix (rowAt Y i) j = V := by
      have h9 := HEL.out i j hin hjm
      have h8 : restD n (elOf T.hi) (elOf X) (elOf R2) (pastB m (k : Int)) i j = elOf X i j := by
        unfold restD
        rw [if_neg (by rw [Bool.not_eq_true, ← HPOS.out]; exact pastB_false.2 (Nat.le_refl _))]
      rw [h8, HV.out] at h9
      exact h9
    rw [eY] at hce3
    have hst := st (V + 1); clear st evp
    have HS := Lib.hid hst; clear hst
    have s2' := xw2.size
    obtain ⟨w4, hw4⟩ : ∃ w4, w3.setCell ⟨bp, op + j, none⟩ (.int .i64 (V + 1)) = w4 := ⟨_, rfl⟩
    have x4 : Ext w w4 := by rw [← hw4]; exact (xw2.trans u3).setCell (a := ⟨bp, op + j, none⟩) (.int .i64 (V + 1)) (by simp only; omega)
    have by4 := (by2.ext u3).upd (w' := w4) (S := fun b => b = bp) (by rw [← hw4]; exact (Upd.refl w3).setCell _ (fun _ => rfl)) (by have := by2.lt; omega)
    have hs4 : w4.heap.size = w3.heap.size := by rw [← hw4]; exact World.size_setCell _ _ _
    rw [hw4] at HS
    have HRZ := Lib.hid (HR3.out.set (u := i) (v := j) (V + 1))
    have HEZ : Hid (∀ a b, a < n → b < m → elOf (Y.set i ((rowAt Y i).set j (V + 1))) a b = sentY (NetT T) (elOf X) (elOf R2) (pastB T.cols.length ((i * T.cols.length + j : Nat) : Int)) i j 1 a b) := Lib.hid (fun a b ha hb => by
      rw [HR3.out.el_set hin hjm]
      unfold sentY
      rw [HM.out, HPOS.out]
      by_cases e : a = i ∧ b = j
      · rw [if_pos e, if_neg (by rw [e.1, e.2, Bool.not_eq_true, ← HPOS.out]; exact pastB_false.2 (Nat.le_refl _)), if_pos e, e.1, e.2, HV.out]
      · rw [if_neg e, if_neg e, HEL.out a b ha hb]
        unfold restD
        have en : (NetT T).n = n := HN.out
        rw [en]
        rfl)
    obtain ⟨Z, hZ⟩ : ∃ Z, Y.set i ((rowAt Y i).set j (V + 1)) = Z := ⟨_, rfl⟩
    rw [hZ] at HS HRZ HEZ
    clear hZ
    have HFZ : Hid (Flow (NetT T) (elOf Z)) := Lib.hid (flow_congr HFL.out (fun a b ha hb => HEZ.out a b (by rw [← HN.out]; exact ha) (by rw [← HM.out]; exact hb)))
    have HTZ : Hid (Till T.rows.length T.cols.length (i * T.cols.length + j) (elOf Z) (elOf X)) := Lib.hid (fun a b ha hb hp => by
      rw [HEZ.out a b (by rw [← HN.out]; exact ha) (by rw [← HM.out]; exact hb)]
      exact sentY_off (pastB_false.2 (by omega)) (fun e => by rw [e.1, e.2] at hp; omega))
    have HZ1 : Hid (elOf Z i j = elOf X i j + 1) := Lib.hid (by
      rw [HEZ.out i j hin hjm]; exact sentY_at (pastB_false.2 (Nat.le_refl _)))
    have x0 := by4.cell 0 (by simp)
    have x1 := by4.cell 1 (by simp)
    have x2 := by4.cell 2 (by simp)
    have x3 := by4.cell 3 (by simp)
    have hu3 := u3.size
    go_wp2_with fail
    clear hw4
    refine (firstFrom_c T Z a0 a1 a2 _ _ c0 c1 c2 c3 cy n m (k + 1) w2.heap.size w3.heap.size (k : Int) r3 w4 HN.out HM.out (H.out.ext x4) HO.out HS.out HRZ.out HFZ.out ⟨t1, t2⟩ (by omega) (by omega) (by omega) (by omega)).mono ?_
    rintro e w5 ⟨ao5, cap5, rvs5, Y5, rfl, f1, f2, g5, rc5, f5, tl5, ls5, u5⟩
    have HFF : Hid (firstV (upT T X k) = Y5) := Lib.hid (by
      have h9 := next_first (X := X) (Y := Y5) (Z := Z) HO.out HF.out HIT.out HJT.out HTZ.out HZ1.out (by rw [HN.out, HM.out]; exact rc5) f5 (by rw [HN.out, HM.out, HPOS.out]; exact tl5) (fun p q hp hq hh => ls5 p q (by rw [← HN.out]; exact hp) (by rw [← HM.out]; exact hq) (by rw [HM.out, HPOS.out] at hh; exact hh))
      rw [HM.out, HPOS.out] at h9; exact h9)
    clear ls5 f5 tl5
    have G5 := Lib.hid (g5.mono s2' (Nat.le_refl _)); clear g5
    have R5 := Lib.hid rc5; clear rc5
    obtain ⟨b9, o9, rfl, _⟩ := G5.out.at_ (k := 0) (by rw [R5.out.len]; omega)
    have hlast := x4.trans u5
    go_wp2
    go_ret
    rw [HYES.out, HFF.out]
    exact ⟨.slice (some ⟨b9, o9, none⟩) n cap5, rvs5, rfl, ⟨_, cap5, by rw [Option.getD_some, R5.out.len], by rw [Option.getD_some, R5.out.len]; exact f1, f2, by rw [Option.getD_some]; exact G5.out⟩, hlast, .inr ⟨rfl, _, _, _, _, rfl⟩⟩
end Go.Proofs.Ytjpomfdmgaambaa
