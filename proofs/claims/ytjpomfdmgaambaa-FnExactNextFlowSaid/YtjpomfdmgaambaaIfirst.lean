/- The first flow from another one, the program's: lowered, firstFrom, firstFlow, FirstFlow. -/
import Derived.Test.YtjpomfdmgaambaaFirstP
import Derived.Test.YtjpomfdmgaambaaRangeW
import Derived.Test.YtjpomfdmgaambaaAny
namespace Go.Proofs.Ytjpomfdmgaambaa
open Go.RowKit
open Fm

theorem flow_congr {T : Tr} {x y : Nat → Nat → Int} (h : Flow (NetT T) y) (e : ∀ i j, i < T.rows.length → j < T.cols.length → x i j = y i j) : Flow (NetT T) x :=
  ⟨fun i j hi hj => by rw [e i j hi hj]; exact h.lo i j hi hj, fun i j hi hj => by rw [e i j hi hj]; exact h.hi i j hi hj, fun i hi => (S_congr (fun j hj => e i j hi hj)).trans (h.row i hi), fun j hj => (S_congr (fun i hi => e i j hi hj)).trans (h.col j hj)⟩
theorem pastB_true {m p i j : Nat} : pastB m (p : Int) i j = true ↔ p < i * m + j := by
  unfold pastB
  rw [decide_eq_true_eq]
  constructor
  · intro h; have : (p : Int) < ((i * m + j : Nat) : Int) := by push_cast; exact h
    omega
  · intro h; have : (p : Int) < ((i * m + j : Nat) : Int) := by omega
    push_cast at this; exact this
theorem pastB_false {m p i j : Nat} : pastB m (p : Int) i j = false ↔ i * m + j ≤ p := by
  rw [← Bool.not_eq_true, pastB_true]; omega
theorem pos_inj {m i j a b : Nat} (hj : j < m) (hb : b < m) (e : a * m + b = i * m + j) : a = i ∧ b = j := by
  have h1 := pos_div (i := a) hb
  have h2 := pos_div (i := i) hj
  rw [e] at h1
  exact ⟨h1.1.symm.trans h2.1, h1.2.symm.trans h2.2⟩
theorem agree_till {T : Tr} {x z : Nat → Nat → Int} {i j : Nat} (hj : j < T.cols.length) (h : Till T.rows.length T.cols.length (i * T.cols.length + j) z x) : Agree (NetT T) x z (pastB T.cols.length ((i * T.cols.length + j : Nat) : Int)) i j := fun a b ha hb hp hne => by
  have h1 := pastB_false.1 hp
  have hb' : b < T.cols.length := hb
  refine h a b ha hb (by
    by_cases e : a * T.cols.length + b = i * T.cols.length + j
    · exact absurd (pos_inj hj hb' e) hne
    · omega)
/-- what 'lowered' makes of a flow -/
theorem lowered_plain {T : Tr} {x r' : Nat → Nat → Int} {i j : Nat} {sent : Int} (hx : Flow (NetT T) x) (hi : i < T.rows.length) (hj : j < T.cols.length)
    (h : Pushed (T.rows.length + T.cols.length) (resD T.rows.length (elOf T.lo) (elOf T.hi) x (pastB T.cols.length ((i * T.cols.length + j : Nat) : Int))) i (T.rows.length + j) (x i j - elOf T.lo i j) sent r') {y : Nat → Nat → Int}
    (hy : ∀ a b, a < T.rows.length → b < T.cols.length → y a b = sentY (NetT T) x r' (pastB T.cols.length ((i * T.cols.length + j : Nat) : Int)) i j (- sent) a b) :
    Flow (NetT T) y ∧ Till T.rows.length T.cols.length (i * T.cols.length + j) y x ∧ LeastAt T y i j := by
  have hlo : elOf T.lo i j ≤ x i j := hx.lo i j hi hj
  have hP : pastB T.cols.length ((i * T.cols.length + j : Nat) : Int) i j = false := pastB_false.2 (Nat.le_refl _)
  have h2 := sendDown (t := NetT T) (P := pastB T.cols.length ((i * T.cols.length + j : Nat) : Int)) hx hi hj hP (lim := x i j - elOf T.lo i j) ⟨by omega, Int.le_refl _⟩ h
  have htl : Till T.rows.length T.cols.length (i * T.cols.length + j) y x := fun a b ha hb hp => by
    rw [hy a b ha hb]
    exact sentY_off (pastB_false.2 (by omega)) (fun e => by rw [e.1, e.2] at hp; omega)
  refine ⟨flow_congr h2.1 hy, htl, fun z hz hT => ?_⟩
  rw [hy i j hi hj]
  have hzx : Till T.rows.length T.cols.length (i * T.cols.length + j) z x := hT.trans htl
  rcases h2.2 with hd | hd
  · have h9 : elOf T.lo i j ≤ z i j := hz.lo i j hi hj
    rw [sentY_at hP]; omega
  · exact hd z hz (agree_till hj hzx)
/-- what is least stays least where a later flow agrees up to it -/
theorem LeastAt.keep {T : Tr} {x y : Nat → Nat → Int} {i j q : Nat} (h : LeastAt T x i j) (ht : Till T.rows.length T.cols.length q y x) (hq : i * T.cols.length + j < q) (hi : i < T.rows.length) (hj : j < T.cols.length) : LeastAt T y i j := fun z hz hT => by
  rw [ht i j hi hj hq]
  exact h z hz (hT.trans (ht.mono (by omega)))

set_option maxRecDepth 100000 in
set_option maxHeartbeats 3200000 in
theorem lowered_c (T : Tr) (X : List (List Int)) (a0 a1 a2 a3 ax : Option Addr) (c0 c1 c2 c3 cx n m i j : Nat) (w : World) (hn : T.rows.length = n) (hm : T.cols.length = m) (h : TrR w (.agg #[.slice a0 n c0, .slice a1 m c1, .slice a2 n c2, .slice a3 n c3]) T) (hX : Grid w (.slice ax n cx) X) (ho : TrOk T) (rc : Rc n m X) (hf : Flow (NetT T) (elOf X)) (hi' : i < n) (hj' : j < m) :
    Calls Try.prog 81 #[.agg #[.slice a0 n c0, .slice a1 m c1, .slice a2 n c2, .slice a3 n c3], .slice ax n cx, .int .i64 i, .int .i64 j] w fun e w' => ∃ (b o cap : Nat) (rvs : List Value) (Y : List (List Int)), e = .returned (.slice (some ⟨b, o, none⟩) n cap) ∧ n ≤ cap ∧ cap ≤ 9223372036854775807 ∧ OwnGA w.heap.size w'.heap.size w' (some ⟨b, o, none⟩) rvs Y ∧ Rc n m Y ∧ Flow (NetT T) (elOf Y) ∧ Till n m (i * m + j) (elOf Y) (elOf X) ∧ LeastAt T (elOf Y) i j ∧ Ext w w' := by
  have H := Lib.hid h; clear h
  have HX := Lib.hid hX
  obtain ⟨_, _, e9, _, _, gx⟩ := hX
  simp only [Value.slice.injEq] at e9
  obtain ⟨rfl, e8, rfl⟩ := e9
  clear e8
  have HO := Lib.hid ho; clear ho
  have HRC := Lib.hid rc; clear rc
  have HF := Lib.hid hf; clear hf
  have iT : i < T.rows.length := by rw [hn]; exact hi'
  have jT : j < T.cols.length := by rw [hm]; exact hj'
  have HW := Lib.hid (flow_within (by rw [hn, hm]; exact HRC.out) HF.out)
  have d2 : n ≤ 8 := by rw [← hn]; exact HO.out.dims.2.1
  have d4 : m ≤ 8 := by rw [← hm]; exact HO.out.dims.2.2.2.1
  have hce := HO.out.el iT jT
  have hwl : elOf T.lo i j ≤ elOf X i j := HF.out.lo i j iT jT
  have hwh : elOf X i j ≤ elOf T.hi i j := HF.out.hi i j iT jT
  have u0 := (Ext.refl w).alloc (.cells #[.slice a0 n c0, .slice a1 m c1, .slice a2 n c2, .slice a3 n c3] 30)
  have b0 := Box.new w 30 #[.slice a0 n c0, .slice a1 m c1, .slice a2 n c2, .slice a3 n c3] rfl
  -- the elements
  obtain ⟨bX, oX, aX, cX, rfl, hcX, x1_, x2_, x3_⟩ := (gx.ext u0).at_ (k := i) (by rw [HRC.out.len]; exact hi')
  obtain ⟨b5, o5, rfl, hx5⟩ := x3_ j (by rw [HRC.out.row i hi']; exact hj')
  rw [HRC.out.row i hi'] at hcX x1_
  clear x3_ gx
  obtain ⟨_, _, e9, _, _, gl⟩ := H.out.f2.ext u0
  simp only [Value.slice.injEq] at e9
  obtain ⟨rfl, e8, rfl⟩ := e9
  clear e8
  obtain ⟨bl, ol, al, cl, rfl, hcl, l1_, l2_, l3_⟩ := gl.at_ (k := i) (by rw [HO.out.rcLo.len]; exact iT)
  obtain ⟨b6, o6, rfl, hx6⟩ := l3_ j (by rw [HO.out.rcLo.row i iT]; exact jT)
  rw [HO.out.rcLo.row i iT, hm] at hcl l1_
  clear l3_ gl
  have q6 : ix (rowAt T.lo i) j = elOf T.lo i j := rfl
  have q5 : ix (rowAt X i) j = elOf X i j := rfl
  rw [q6] at hx6
  rw [q5] at hx5
  clear q5 q6
  have k0 := b0.cell 0 (by simp)
  have k1 := b0.cell 1 (by simp)
  have k2 := b0.cell 2 (by simp)
  have k3 := b0.cell 3 (by simp)
  obtain ⟨ws, hws⟩ : ∃ ws, w.alloc (.cells #[.slice a0 n c0, .slice a1 m c1, .slice (some ⟨bl, ol, none⟩) n c2, .slice a3 n c3] 30) = ws := ⟨_, rfl⟩
  rw [hws] at u0 b0 k0 k1 k2 k3 hcX hx5 hcl hx6
  have HWS := Lib.hid hws; clear hws
  obtain ⟨L, hL⟩ : ∃ L, elOf T.lo i j = L := ⟨_, rfl⟩
  obtain ⟨V, hV⟩ : ∃ V, elOf X i j = V := ⟨_, rfl⟩
  rw [hL] at hx6 hce hwl
  rw [hV] at hx5 hwl hwh
  have HL := Lib.hid hL; clear hL
  have HV := Lib.hid hV; clear hV
  obtain ⟨q, hq⟩ : ∃ q, n + j = q := ⟨_, rfl⟩
  have hqN : q < n + m := by omega
  have hiq : i ≠ q := by omega
  have HQ := Lib.hid hq
  have eq1 : (n : Int) + (j : Int) = (q : Int) := by omega
  have hw1 : IntKind.i64.wrap (q : Int) = (q : Int) := IntWalk.i64_in _ (by omega)
  clear hq
  obtain ⟨pm, hpm⟩ : ∃ pm, i * m = pm := ⟨_, rfl⟩
  have hpm8 : pm ≤ 64 := by rw [← hpm]; exact Nat.le_trans (Nat.mul_le_mul (show i ≤ 8 by omega) d4) (by omega)
  have ep1 : (i : Int) * (m : Int) = (pm : Int) := by rw [← hpm]; simp
  have hw2 : IntKind.i64.wrap (pm : Int) = (pm : Int) := IntWalk.i64_in _ (by omega)
  obtain ⟨p, hp⟩ : ∃ p, pm + j = p := ⟨_, rfl⟩
  have ep2 : (pm : Int) + (j : Int) = (p : Int) := by omega
  have hw3 : IntKind.i64.wrap (p : Int) = (p : Int) := IntWalk.i64_in _ (by omega)
  have hp8 : p ≤ 80 := by omega
  have HP : Hid (i * m + j = p) := Lib.hid (by rw [hpm]; exact hp)
  clear hpm hp
  obtain ⟨D, hD⟩ : ∃ D, V - L = D := ⟨_, rfl⟩
  have hw4 : IntKind.i64.wrap (V - L) = D := by rw [IntWalk.i64_in _ (by omega)]; exact hD
  have hDb : 0 ≤ D ∧ D ≤ 100000 := by omega
  have HD := Lib.hid hD; clear hD
  have HN := Lib.hid hn; clear hn
  have HM := Lib.hid hm; clear hm
  have HIT := Lib.hid iT; clear iT
  have HJT := Lib.hid jT; clear jT
  have hN18 : n + m ≤ 18 := by omega
  have hiN : i < n + m := by omega
  have hDr : -1000000000 ≤ D ∧ D ≤ 1000000000 := by omega
  have hcapN : n + m ≤ n + m ∧ n + m ≤ 9223372036854775807 := by omega
  go_enter Try.func81, Try.ntmps81
  go_wp2_with fail
  rw [HWS.out]
  go_quiet (fail)
  obtain ⟨wb, hwb⟩ : ∃ wb, ws.drewN nq = wb := ⟨_, rfl⟩
  have xb : Ext ws wb := by rw [← hwb]; exact (Ext.refl ws).drewN nq
  have y0 : wb.cell? ⟨w.heap.size, 0, none⟩ = some (.slice a0 n c0) := Ext.cell xb k0
  have y1 : wb.cell? ⟨w.heap.size, 1, none⟩ = some (.slice a1 m c1) := Ext.cell xb k1
  have y2 : wb.cell? ⟨w.heap.size, 2, none⟩ = some (.slice (some ⟨bl, ol, none⟩) n c2) := Ext.cell xb k2
  have y3 : wb.cell? ⟨w.heap.size, 3, none⟩ = some (.slice a3 n c3) := Ext.cell xb k3
  have yX := Ext.cell xb hcX
  have y5 := Ext.cell xb hx5
  have yl := Ext.cell xb hcl
  have y6 := Ext.cell xb hx6
  have xw := u0.trans xb
  clear k0 k1 k2 k3 hcX hx5 hcl hx6
  go_wp2_with fail
  try rw [hwb]
  clear hwb
  have hcon := residual_c _ T _ X (p : Int) wb (H.out.ext xw) (HX.out.ext xw) HO.out HW.out ⟨by omega, by omega⟩
  rw [HN.out, HM.out] at hcon
  refine hcon.mono ?_
  rintro e w1 ⟨ao, rvs, R, rfl, g1, s1, l1, u1⟩
  clear hcon
  have G1 := Lib.hid g1; clear g1
  have S1 := Lib.hid s1; clear s1
  have L1 := Lib.hid l1; clear l1
  have z0 : w1.cell? ⟨w.heap.size, 0, none⟩ = some (.slice a0 n c0) := Ext.cell u1 y0
  have z1 : w1.cell? ⟨w.heap.size, 1, none⟩ = some (.slice a1 m c1) := Ext.cell u1 y1
  have z2 : w1.cell? ⟨w.heap.size, 2, none⟩ = some (.slice (some ⟨bl, ol, none⟩) n c2) := Ext.cell u1 y2
  have z3 : w1.cell? ⟨w.heap.size, 3, none⟩ = some (.slice a3 n c3) := Ext.cell u1 y3
  have zX := Ext.cell u1 yX
  have z5 := Ext.cell u1 y5
  have zl := Ext.cell u1 yl
  have z6 := Ext.cell u1 y6
  have HB : Hid (∀ u v, u < n + m → v < n + m → 0 ≤ elOf R u v ∧ elOf R u v ≤ 1000000000) := Lib.hid (fun u v hu hv => by
    rw [L1.out u v hu hv]
    have h9 := resD_bound HO.out HW.out (pastB m (p : Int)) (u := u) (v := v) (by rw [HN.out, HM.out]; exact hu) (by rw [HN.out, HM.out]; exact hv)
    rw [HN.out] at h9; exact h9)
  have G1d := Lib.hid (G1.out.ext (Ext.refl w1).drew)
  have hs1d : w1.heap.size ≤ w1.drew.heap.size := Nat.le_refl _
  go_wp2_with fail
  go_region_held3 (fun x => x.cell? ⟨w.heap.size, 0, none⟩ = some (.slice a0 n c0) ∧ x.cell? ⟨w.heap.size, 1, none⟩ = some (.slice a1 m c1) ∧ x.cell? ⟨w.heap.size, 2, none⟩ = some (.slice (some ⟨bl, ol, none⟩) n c2) ∧ x.cell? ⟨w.heap.size, 3, none⟩ = some (.slice a3 n c3) ∧ x.cell? ⟨bX, oX + i, none⟩ = some (.slice (some ⟨b5, o5, none⟩) m cX) ∧ x.cell? ⟨b5, o5 + j, none⟩ = some (.int .i64 V) ∧ x.cell? ⟨bl, ol + i, none⟩ = some (.slice (some ⟨b6, o6, none⟩) m cl) ∧ x.cell? ⟨b6, o6 + j, none⟩ = some (.int .i64 L))
    (first | exact ⟨E2.cell y0, E2.cell y1, E2.cell y2, E2.cell y3, E2.cell yX, E2.cell y5, E2.cell yl, E2.cell y6⟩ | exact ⟨z0, z1, z2, z3, zX, z5, zl, z6⟩ | go_keep)
    ((go_at_call 61; refine (push_c wb.heap.size w1.heap.size ao (n + m) rvs R (n + m) i q D w1.drew G1d.out S1.out hcapN hN18 hiN hqN hiq HB.out hDr hs1d).mono ?_; rintro e w2 ⟨sent, R2, rfl, g2, s2, p2, U2⟩; have E2 := (u1.drew).of_upd U2 (fun b hb => hb.1); have G2 := Lib.hid g2; clear g2; have S2 := Lib.hid s2; clear s2; have P2 := Lib.hid p2; clear p2))
  have hpl : Pushed (T.rows.length + T.cols.length) (resD T.rows.length (elOf T.lo) (elOf T.hi) (elOf X) (pastB T.cols.length ((i * T.cols.length + j : Nat) : Int))) i (T.rows.length + j) (elOf X i j - elOf T.lo i j) sent (elOf R2) := by
    rw [HN.out, HM.out, HQ.out, HV.out, HL.out, HD.out, HP.out]
    exact P2.out.congr hiN (fun u v hu hv => (L1.out u v hu hv).symm) (fun _ _ _ _ => rfl)
  have HPL := Lib.hid hpl; clear hpl
  have hsb : 0 ≤ sent ∧ sent ≤ D := ⟨P2.out.pos, P2.out.le hDb.1⟩
  have a0' : w2.cell? ⟨w.heap.size, 0, none⟩ = some (.slice a0 n c0) := E2.cell y0
  have a1' : w2.cell? ⟨w.heap.size, 1, none⟩ = some (.slice a1 m c1) := E2.cell y1
  have a2' : w2.cell? ⟨w.heap.size, 2, none⟩ = some (.slice (some ⟨bl, ol, none⟩) n c2) := E2.cell y2
  have a3' : w2.cell? ⟨w.heap.size, 3, none⟩ = some (.slice a3 n c3) := E2.cell y3
  have xw2 := xw.trans E2
  have HGR : Hid (Grid w2 (.slice ao (n + m) (n + m)) R2) := Lib.hid ⟨ao, n + m, by rw [S2.out.len], by rw [S2.out.len]; exact Nat.le_refl _, by omega, G2.out.grid⟩
  have HB2 : Hid (∀ a b, a < n → b < m → -1000000000 ≤ elOf R2 a (n + b) ∧ elOf R2 a (n + b) ≤ 1000000000000) := Lib.hid (fun a b ha hb => by
    have h1 := P2.out.nonneg a (n + b) (by omega) (by omega)
    have h2 := P2.out.nonneg (n + b) a (by omega) (by omega)
    have h3 := P2.out.pair a (n + b) (by omega) (by omega)
    have h4 := HB.out a (n + b) (by omega) (by omega)
    have h5 := HB.out (n + b) a (by omega) (by omega)
    omega)
  go_wp2_with fail
  have hcon := restore_c _ T _ X _ R2 (p : Int) w2 (H.out.ext xw2) (HX.out.ext xw2) HGR.out HO.out (by rw [HN.out, HM.out]; exact HRC.out) ⟨by rw [HN.out, S2.out.len]; omega, fun a ha => by rw [HN.out] at ha; rw [HN.out, HM.out, S2.out.row a (by omega)]; exact Nat.le_refl _⟩ (by rw [HN.out, HM.out]; exact HB2.out) ⟨by omega, by omega⟩
  rw [HN.out, HM.out] at hcon
  refine hcon.mono ?_
  rintro e w3 ⟨x3, r3, Y, rfl, o3, rc3, el3, u3⟩
  clear hcon
  have HEL := Lib.hid el3; clear el3
  have HR3 := Lib.hid rc3; clear rc3
  obtain ⟨ay, cy, rfl, t1, t2, gy⟩ := o3
  rw [HR3.out.len] at t1 ⊢
  have GY := Lib.hid gy; clear gy
  obtain ⟨bg, og, rfl, _, _, _, hcp, _⟩ := GY.out.at_ (k := i) (by rw [HR3.out.len]; exact hi')
  obtain ⟨ap, cp, evp, ip1, ip2⟩ := GY.out.rowForm (k := i) (by rw [HR3.out.len]; exact hi')
  have hst := GY.out.store (k := i) (l := j) (by rw [HR3.out.len]; exact hi') (by rw [HR3.out.row i hi']; exact hj') evp
  rw [evp, HR3.out.row i hi'] at hcp
  rw [HR3.out.row i hi'] at ip1
  obtain ⟨bp, op, q3, lp1, lp2, lp3, hce3, hfe, st⟩ := hst
  subst q3
  have eY : ix (rowAt Y i) j = V := by
    have h9 := HEL.out i j hi' hj'
    have h8 : restD n (elOf T.hi) (elOf X) (elOf R2) (pastB m (p : Int)) i j = elOf X i j := by
      unfold restD
      rw [if_neg (by rw [Bool.not_eq_true, ← HP.out]; exact pastB_false.2 (Nat.le_refl _))]
    rw [h8, HV.out] at h9
    exact h9
  rw [eY] at hce3
  have hst := st (V - sent); clear st evp
  have HS := Lib.hid hst; clear hst
  have hx3 := (xw2.trans u3).setCell (a := ⟨bp, op + j, none⟩) (.int .i64 (V - sent)) (by have := xw2.size; simp only; omega)
  have HX3 := Lib.hid hx3; clear hx3
  have hs2 := xw2.size
  have HEY := Lib.hid eY; clear eY
  go_wp2
  go_ret
  have hfin := lowered_plain HF.out HIT.out HJT.out HPL.out (y := elOf (Y.set i ((rowAt Y i).set j (V - sent)))) (fun a b ha hb => by
    rw [HN.out] at ha
    rw [HM.out] at hb
    rw [HR3.out.el_set hi' hj']
    unfold sentY
    rw [HM.out, HP.out]
    by_cases e : a = i ∧ b = j
    · rw [if_pos e, if_neg (by rw [e.1, e.2, Bool.not_eq_true, ← HP.out]; exact pastB_false.2 (Nat.le_refl _)), if_pos e, e.1, e.2, HV.out]; omega
    · rw [if_neg e, if_neg e, HEL.out a b ha hb]
      unfold restD
      have en : (NetT T).n = n := HN.out
      rw [en]
      rfl)
  rw [HN.out, HM.out] at hfin
  exact ⟨bg, og, cy, r3, _, rfl, t1, t2, HS.out.mono hs2 (by rw [World.size_setCell]; exact Nat.le_refl _), HR3.out.set _, hfin.1, hfin.2.1, hfin.2.2, HX3.out⟩
set_option maxRecDepth 100000 in
set_option maxHeartbeats 3200000 in
theorem firstFrom_c (T : Tr) (X : List (List Int)) (a0 a1 a2 a3 ax : Option Addr) (c0 c1 c2 c3 cx n m q lo hi : Nat) (fr : Int) (rvs : List Value) (w : World) (hn : T.rows.length = n) (hm : T.cols.length = m) (h : TrR w (.agg #[.slice a0 n c0, .slice a1 m c1, .slice a2 n c2, .slice a3 n c3]) T) (ho : TrOk T) (gX : OwnGA lo hi w ax rvs X) (rc : Rc n m X) (hf : Flow (NetT T) (elOf X)) (hcx : n ≤ cx ∧ cx ≤ 9223372036854775807) (hlo : lo ≤ w.heap.size) (hhi : hi ≤ w.heap.size) (hfr : fr + 1 = (q : Int)) (hq : q ≤ 100) :
    Calls Try.prog 63 #[.agg #[.slice a0 n c0, .slice a1 m c1, .slice a2 n c2, .slice a3 n c3], .slice ax n cx, .int .i64 fr] w fun e w' => ∃ (ao : Option Addr) (cap : Nat) (rvs : List Value) (Y : List (List Int)), e = .returned (.slice ao n cap) ∧ n ≤ cap ∧ cap ≤ 9223372036854775807 ∧ OwnGA lo w'.heap.size w' ao rvs Y ∧ Rc n m Y ∧ Flow (NetT T) (elOf Y) ∧ Till n m q (elOf Y) (elOf X) ∧ (∀ i j, i < n → j < m → q ≤ i * m + j → LeastAt T (elOf Y) i j) ∧ Ext w w' := by
  have H := Lib.hid h; clear h
  have HO := Lib.hid ho; clear ho
  have hd := HO.out.dims
  rw [hn, hm] at hd
  obtain ⟨d1, d2, d3, d4, _⟩ := hd
  have HN := Lib.hid hn; clear hn
  have HM := Lib.hid hm; clear hm
  have u0 := (Ext.refl w).alloc (.cells #[.slice a0 n c0, .slice a1 m c1, .slice a2 n c2, .slice a3 n c3] 30)
  have b0 := Box.new w 30 #[.slice a0 n c0, .slice a1 m c1, .slice a2 n c2, .slice a3 n c3] rfl
  have k0 := b0.cell 0 (by simp)
  have k1 := b0.cell 1 (by simp)
  have k2 := b0.cell 2 (by simp)
  have k3 := b0.cell 3 (by simp)
  obtain ⟨ws, hws⟩ : ∃ ws, w.alloc (.cells #[.slice a0 n c0, .slice a1 m c1, .slice a2 n c2, .slice a3 n c3] 30) = ws := ⟨_, rfl⟩
  have hsz := u0.size
  have gX0 := (gX.ext u0).mono (Nat.le_refl lo) (show hi ≤ (w.alloc (.cells #[.slice a0 n c0, .slice a1 m c1, .slice a2 n c2, .slice a3 n c3] 30)).heap.size by omega)
  rw [hws] at u0 b0 k0 k1 k2 k3 gX0 hsz
  have GX := Lib.hid gX0; clear gX0 gX
  have HWS := Lib.hid hws; clear hws
  have HRC := Lib.hid rc; clear rc
  have HF := Lib.hid hf; clear hf
  obtain ⟨hc1, hc2⟩ := hcx
  obtain ⟨N, hN⟩ : ∃ N, n * m = N := ⟨_, rfl⟩
  have hN8 : N ≤ 64 := by rw [← hN]; exact Nat.le_trans (Nat.mul_le_mul d2 d4) (by omega)
  have eN : (n : Int) * (m : Int) = (N : Int) := by rw [← hN]; simp
  have hwN : IntKind.i64.wrap (N : Int) = (N : Int) := IntWalk.i64_in _ (by omega)
  have HNN := Lib.hid hN; clear hN
  have hfb : -1 ≤ fr ∧ fr ≤ 99 := by omega
  have hfr2 : fr = (q : Int) - 1 := by omega
  subst hfr2
  clear hfr hfb
  go_enter Try.func63, Try.ntmps63
  go_wp2_with fail
  rw [HWS.out]
  go_loopw [1, 8] (fun x i wr => ∃ (p : Nat) (ao : Option Addr) (cap : Nat) (rvs : List Value) (Y : List (List Int)), q ≤ p ∧ p ≤ 100 ∧ x = .slice ao n cap ∧ i = .int .i64 p ∧ n ≤ cap ∧ cap ≤ 9223372036854775807 ∧ OwnGA lo wr.heap.size wr ao rvs Y ∧ Rc n m Y ∧ Flow (NetT T) (elOf Y) ∧ Till n m q (elOf Y) (elOf X) ∧ (∀ i j, i < n → j < m → q ≤ i * m + j → i * m + j < p → LeastAt T (elOf Y) i j) ∧ Ext ws wr) (fun _ i _ => N - (intOf i).toNat)
  case atStart => exact ⟨q, ax, cx, rvs, X, Nat.le_refl _, hq, rfl, (by go_num), hc1, hc2, GX.out, HRC.out, HF.out, (fun i j _ _ _ => rfl), (fun i j _ _ h1 h2 => absurd h2 (by omega)), Ext.refl _⟩
  case round =>
    obtain ⟨p, ao, cap, rvs', Y, hp1, hp2, rfl, rfl, e1, e2, g, rcY, fY, tY, lY, hx⟩ := hrel
    obtain ⟨wo, rfl⟩ : ∃ wo : World, wo = wr := ⟨_, rfl⟩
    have GY := Lib.hid g; clear g
    have RY := Lib.hid rcY; clear rcY
    have FY := Lib.hid fY; clear fY
    have TY := Lib.hid tY; clear tY
    have LY := Lib.hid lY; clear lY
    have by_ := b0.ext hx
    have y0 := by_.cell 0 (by simp)
    have y1 := by_.cell 1 (by simp)
    have y2 := by_.cell 2 (by simp)
    have y3 := by_.cell 3 (by simp)
    have xw := u0.trans hx
    clear by_
    by_cases hlt : p < N
    · obtain ⟨k, hk⟩ : ∃ k, p / m = k := ⟨_, rfl⟩
      obtain ⟨l, hl⟩ : ∃ l, p % m = l := ⟨_, rfl⟩
      have hkn : k < n := by rw [← hk]; exact Nat.div_lt_of_lt_mul (by rw [Nat.mul_comm, HNN.out]; exact hlt)
      have hlm : l < m := by rw [← hl]; exact Nat.mod_lt _ (by omega)
      have hpos : k * m + l = p := by rw [← hk, ← hl, Nat.mul_comm]; exact Nat.div_add_mod p m
      have q1 : (p : Int) / (m : Int) = (k : Int) := by rw [← hk]; simp
      have q2 : (p : Int).tdiv (m : Int) = (k : Int) := by rw [Int.tdiv_eq_ediv_of_nonneg (by omega)]; exact q1
      have q3 : (p : Int) % (m : Int) = (l : Int) := by rw [← hl]; simp
      have q4 : (p : Int).tmod (m : Int) = (l : Int) := by rw [Int.tmod_eq_emod_of_nonneg (by omega)]; exact q3
      have q5 : IntKind.i64.wrap (k : Int) = (k : Int) := IntWalk.i64_in _ (by omega)
      have q6 : (m : Int) ≠ 0 := by omega
      have q7 : ¬ m = 0 := by omega
      have q8 : 0 < m := by omega
      have HPOS := Lib.hid hpos; clear hpos hk hl
      have hG : Hid (Grid wo.drew (.slice ao n cap) Y) := Lib.hid ⟨ao, cap, by rw [RY.out.len], by rw [RY.out.len]; exact e1, e2, GY.out.grid.ext (Ext.refl wo).drew⟩
      have hH : Hid (TrR wo.drew (.agg #[.slice a0 n c0, .slice a1 m c1, .slice a2 n c2, .slice a3 n c3]) T) := Lib.hid (H.out.ext xw.drew)
      have y0 : wo.cell? ⟨w.heap.size, 0, none⟩ = some (.slice a0 n c0) := y0
      have y1 : wo.cell? ⟨w.heap.size, 1, none⟩ = some (.slice a1 m c1) := y1
      have y2 : wo.cell? ⟨w.heap.size, 2, none⟩ = some (.slice a2 n c2) := y2
      have y3 : wo.cell? ⟨w.heap.size, 3, none⟩ = some (.slice a3 n c3) := y3
      go_wp2_with fail
      go_region_held3 (fun x => x.cell? ⟨w.heap.size, 0, none⟩ = some (.slice a0 n c0) ∧ x.cell? ⟨w.heap.size, 1, none⟩ = some (.slice a1 m c1) ∧ x.cell? ⟨w.heap.size, 2, none⟩ = some (.slice a2 n c2) ∧ x.cell? ⟨w.heap.size, 3, none⟩ = some (.slice a3 n c3))
        (first | exact ⟨E2.cell y0, E2.cell y1, E2.cell y2, E2.cell y3⟩ | exact ⟨y0, y1, y2, y3⟩ | go_keep)
        ((go_at_call 81; refine (lowered_c T Y a0 a1 a2 a3 ao c0 c1 c2 c3 cap n m k l wo.drew HN.out HM.out hH.out hG.out HO.out RY.out FY.out hkn hlm).mono ?_; rintro e w2 ⟨b, o, cap2, rvs2, Y2, rfl, t1, t2, g2, rc2, f2, tl2, ls2, u2⟩; have E2 := (Ext.refl wo).drew.trans u2))
      have hlo2 : lo ≤ wo.drew.heap.size := by have := xw.drew.size; omega
      have G2 := Lib.hid (g2.mono hlo2 (Nat.le_refl _)); clear g2
      have R2 := Lib.hid rc2; clear rc2
      have F2 := Lib.hid f2; clear f2
      have T2 : Hid (Till n m q (elOf Y2) (elOf X)) := Lib.hid ((tl2.mono (by rw [HPOS.out]; exact hp1)).trans TY.out)
      have L2 : Hid (∀ i j, i < n → j < m → q ≤ i * m + j → i * m + j < p + 1 → LeastAt T (elOf Y2) i j) := Lib.hid (fun i j hi hj h1 h2 => by
        by_cases e : i * m + j < p
        · exact (LY.out i j hi hj h1 e).keep (q := p) (by rw [HN.out, HM.out, ← HPOS.out]; exact tl2) (by rw [HM.out]; exact e) (by rw [HN.out]; exact hi) (by rw [HM.out]; exact hj)
        · have e2 := pos_inj (m := m) (i := k) (j := l) (a := i) (b := j) hlm hj (by rw [HPOS.out]; omega)
          rw [e2.1, e2.2]; exact ls2)
      clear tl2 ls2
      have hx2 := hx.trans E2
      go_wp2
      go_roundw
      case rel => exact ⟨p + 1, _, cap2, rvs2, Y2, by omega, by omega, rfl, by go_num, t1, t2, G2.out, R2.out, F2.out, T2.out, L2.out, hx2⟩
      case measure => simp [intOf]; omega
    · go_wp2
      go_ret
      exact ⟨ao, cap, rvs', Y, rfl, e1, e2, GY.out, RY.out, FY.out, TY.out, (fun i j hi hj h1 => LY.out i j hi hj h1 (by
        have h2 : (i + 1) * m ≤ n * m := Nat.mul_le_mul_right _ hi
        rw [HNN.out, Nat.add_mul] at h2
        omega)), xw⟩
theorem eql_nil_ff (t e : TypeId) (h : Program.underlying Try.prog t = some (.slice e)) (w : World) (a : Option Addr) (n c : Nat) : (binOp .neq t (.slice a n c) (.slice none 0 0)).run Try.prog w = .ok (.bool (!a.isNone)) w := by
  simp only [binOp]
  simp [Op.equal, Op.maxDepth, Go.Lib.run_equalIn_slice_nil w 9999 t e a n c 0 0 h]
set_option maxRecDepth 100000 in
set_option maxHeartbeats 1600000 in
theorem firstFlow_c (v : Value) (T : Tr) (w : World) (h : TrR w v T) (ho : TrOk T) :
    Calls Try.prog 48 #[v] w fun e w' => ∃ (v' : Value) (rvs : List Value), e = .returned v' ∧ OwnG w.heap.size w'.heap.size w' v' rvs (firstV T) ∧ Ext w w' ∧ ((feasB T = false ∧ v' = .slice none 0 0) ∨ (feasB T = true ∧ ∃ b o n cap, v' = .slice (some ⟨b, o, none⟩) n cap)) := by
  have H := Lib.hid h
  have HO := Lib.hid ho; clear ho
  obtain ⟨a0, c0, a1, c1, a2, c2, a3, c3, rfl, n0, n1, n2, n3⟩ := h.form
  clear h
  have e2 : T.lo.length = T.rows.length := HO.out.rcLo.len
  have e3 : T.hi.length = T.rows.length := HO.out.rcHi.len
  rw [e2, e3] at H ⊢
  clear e2 e3
  have u0 := (Ext.refl w).alloc (.cells #[.slice a0 T.rows.length c0, .slice a1 T.cols.length c1, .slice a2 T.rows.length c2, .slice a3 T.rows.length c3] 30)
  have b0 := Box.new w 30 #[.slice a0 T.rows.length c0, .slice a1 T.cols.length c1, .slice a2 T.rows.length c2, .slice a3 T.rows.length c3] rfl
  have k0 := b0.cell 0 (by simp)
  have k1 := b0.cell 1 (by simp)
  have k2 := b0.cell 2 (by simp)
  have k3 := b0.cell 3 (by simp)
  have q22 : ∀ (w : World) (a : Option Addr) (n c : Nat), (binOp .eql 23 (.slice a n c) (.slice none 0 0)).run Try.prog w = .ok (.bool a.isNone) w := fun w a n c => Go.Lib.run_eql_slice_nil w _ _ a n c 0 0 Try.underlying23
  go_enter Try.func48, Try.ntmps48
  go_wp2_with fail
  refine (anyFlow_c _ T _ (H.out.ext u0) HO.out).mono ?_
  rintro e w1 ⟨x1, rfl, u1, hp⟩
  have b1 := b0.ext u1
  have y0 := b1.cell 0 (by simp)
  have y1 := b1.cell 1 (by simp)
  have y2 := b1.cell 2 (by simp)
  have y3 := b1.cell 3 (by simp)
  have v1 := u0.trans u1
  rcases hp with ⟨rfl, hno⟩ | ⟨rvs, X, b, o, cap, rfl, oX, rcX, hfl⟩
  · have HF : Hid (feasB T = false) := Lib.hid (feasB_false.2 hno)
    have HV := Lib.hid (first_none HF.out)
    clear hno
    go_wp2
    go_ret
    rw [HV.out]
    exact ⟨_, [], rfl, OwnG.nil, v1, .inl ⟨HF.out, rfl⟩⟩
  · have HF : Hid (feasB T = true) := Lib.hid (feasB_true.2 ⟨_, hfl⟩)
    obtain ⟨ax, cx, e9, p1, p2, oXA⟩ := oX
    simp only [Value.slice.injEq] at e9
    obtain ⟨rfl, e8, rfl⟩ := e9
    clear e8
    have OX := Lib.hid oXA; clear oXA
    rw [rcX.len] at p1
    have RX := Lib.hid rcX; clear rcX
    have FX := Lib.hid hfl; clear hfl
    have hw0 := u0.size
    go_wp2_with fail
    refine (firstFrom_c T X a0 a1 a2 a3 _ c0 c1 c2 c3 _ T.rows.length T.cols.length 0 _ _ (-1) rvs _ rfl rfl (H.out.ext v1) HO.out OX.out RX.out FX.out ⟨p1, p2⟩ u1.size (Nat.le_refl _) (by omega) (by omega)).mono ?_
    rintro e w2 ⟨ao, cap2, rvs2, Y, rfl, t1, t2, g2, rc2, f2, _, ls2, u2⟩
    have HFF : Hid (firstV T = Y) := Lib.hid (FirstFrom.eq ⟨rc2, f2, fun i j hi hj h1 => ls2 i j hi hj h1⟩)
    clear ls2 f2
    have G2 := Lib.hid (g2.mono hw0 (Nat.le_refl _)); clear g2
    have R2 := Lib.hid rc2; clear rc2
    go_wp2
    go_ret
    rw [HFF.out]
    obtain ⟨b2, o2, rfl, _⟩ := G2.out.at_ (k := 0) (by rw [R2.out.len]; have := HO.out.dims.1; omega)
    exact ⟨.slice (some ⟨b2, o2, none⟩) T.rows.length cap2, rvs2, rfl, ⟨some ⟨b2, o2, none⟩, cap2, by rw [R2.out.len], by rw [R2.out.len]; exact t1, t2, G2.out⟩, v1.trans u2, .inr ⟨HF.out, _, _, _, _, rfl⟩⟩
end Go.Proofs.Ytjpomfdmgaambaa
