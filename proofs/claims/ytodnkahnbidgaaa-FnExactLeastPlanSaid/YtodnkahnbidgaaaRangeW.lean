/- The least and the greatest value of an element, the program's: rangeOf. -/
import Derived.Test.YtodnkahnbidgaaaLowP
import Derived.Test.YtodnkahnbidgaaaAny
import Derived.Deep.RegionHeld3
namespace Go.Proofs.Ytodnkahnbidgaaa
open Go.RowKit
open Fm

/-- all but (i, j) -/
def freeB (i j p q : Nat) : Bool := !(decide (p = i) && decide (q = j))
theorem freeB_at (i j : Nat) : freeB i j i j = false := by simp [freeB]
theorem freeB_off {i j p q : Nat} (h : ¬ (p = i ∧ q = j)) : freeB i j p q = true := by
  simp only [freeB, Bool.not_eq_true', Bool.and_eq_false_iff, decide_eq_false_iff_not]
  by_cases e : p = i
  · exact .inr (fun e2 => h ⟨e, e2⟩)
  · exact .inl e
theorem agree_all {t : Net} {x z : Nat → Nat → Int} {i j : Nat} : Agree t x z (freeB i j) i j := fun p q _ _ hp hne => by rw [freeB_off hne] at hp; cases hp
theorem resD_free {n : Nat} {lo hi x : Nat → Nat → Int} {i j : Nat} (hi' : i < n) (a b : Nat) :
    resD n lo hi x (freeB i j) a b = if a = n + j ∧ b = i then 0 else if a = i ∧ b = n + j then 0 else resD n lo hi x (fun _ _ => true) a b := by
  by_cases e1 : a = n + j ∧ b = i
  · obtain ⟨rfl, rfl⟩ := e1
    rw [if_pos ⟨rfl, rfl⟩, rd_cr _ _ _ _ _ hi', freeB_at]; simp
  · rw [if_neg e1]
    by_cases e2 : a = i ∧ b = n + j
    · obtain ⟨rfl, rfl⟩ := e2
      rw [if_pos ⟨rfl, rfl⟩, rd_rc _ _ _ _ _ hi', freeB_at]; simp
    · rw [if_neg e2]
      have h := resD_step (n := n) (lo := lo) (hi := hi) (x := x) (P := freeB i j) (P' := fun _ _ => true) (k := i) (l := j) hi' rfl (fun p q hne => (freeB_off hne).symm) a b
      rw [if_neg e1, if_neg e2] at h
      exact h.symm
theorem range_low {T : Tr} {x r' : Nat → Nat → Int} {i j : Nat} {sent : Int} (hx : Flow (NetT T) x) (hi : i < T.rows.length) (hj : j < T.cols.length)
    (h : Pushed (T.rows.length + T.cols.length) (resD T.rows.length (elOf T.lo) (elOf T.hi) x (freeB i j)) i (T.rows.length + j) (x i j - elOf T.lo i j) sent r') : lowV T i j = x i j - sent ∧ 0 ≤ sent ∧ sent ≤ x i j - elOf T.lo i j := by
  have hlo : elOf T.lo i j ≤ x i j := hx.lo i j hi hj
  have h2 := sendDown (t := NetT T) (P := freeB i j) hx hi hj (freeB_at i j) (lim := x i j - elOf T.lo i j) ⟨by omega, Int.le_refl _⟩ h
  have hle := h.le (by omega)
  rw [sentY_at (freeB_at i j)] at h2
  refine ⟨IsLow.eq ⟨⟨_, h2.1, by rw [sentY_at (freeB_at i j)]; omega⟩, fun z hz => ?_⟩, h.pos, hle⟩
  rcases h2.2 with hd | hd
  · have h9 : elOf T.lo i j ≤ z i j := hz.lo i j hi hj
    omega
  · have := hd z hz agree_all; omega
theorem range_high {T : Tr} {x r' : Nat → Nat → Int} {i j : Nat} {sent : Int} (hx : Flow (NetT T) x) (hi : i < T.rows.length) (hj : j < T.cols.length)
    (h : Pushed (T.rows.length + T.cols.length) (resD T.rows.length (elOf T.lo) (elOf T.hi) x (freeB i j)) (T.rows.length + j) i (elOf T.hi i j - x i j) sent r') : highV T i j = x i j + sent ∧ 0 ≤ sent ∧ sent ≤ elOf T.hi i j - x i j := by
  have hhi : x i j ≤ elOf T.hi i j := hx.hi i j hi hj
  have h2 := sendUp (t := NetT T) (P := freeB i j) hx hi hj (freeB_at i j) (lim := elOf T.hi i j - x i j) ⟨by omega, Int.le_refl _⟩ h
  have hle := h.le (by omega)
  rw [sentY_at (freeB_at i j)] at h2
  refine ⟨IsHigh.eq ⟨⟨_, h2.1, sentY_at (freeB_at i j)⟩, fun z hz => ?_⟩, h.pos, hle⟩
  rcases h2.2 with hd | hd
  · have h9 : z i j ≤ elOf T.hi i j := hz.hi i j hi hj
    omega
  · have := hd z hz agree_all; omega
theorem flow_within {T : Tr} {X : List (List Int)} (rc : Rc T.rows.length T.cols.length X) (h : Flow (NetT T) (elOf X)) : Within T X := ⟨rc.len, fun i hi => ⟨rc.row i hi, fun j hj => ⟨h.lo i j hi hj, h.hi i j hi hj⟩⟩⟩
theorem resD_bound {T : Tr} (ho : TrOk T) {X : List (List Int)} (hw : Within T X) (P : Nat → Nat → Bool) {u v : Nat} (hu : u < T.rows.length + T.cols.length) (hv : v < T.rows.length + T.cols.length) :
    0 ≤ resD T.rows.length (elOf T.lo) (elOf T.hi) (elOf X) P u v ∧ resD T.rows.length (elOf T.lo) (elOf T.hi) (elOf X) P u v ≤ 1000000000 := by
  by_cases h1 : u < T.rows.length
  · by_cases h2 : v < T.rows.length
    · rw [rd_rr _ _ _ _ _ h1 h2]; omega
    · obtain ⟨j, rfl⟩ : ∃ j, v = T.rows.length + j := ⟨v - T.rows.length, by omega⟩
      rw [rd_rc _ _ _ _ _ h1]
      have h3 := (hw.2 u h1).2 j (by omega)
      have h4 := ho.el h1 (j := j) (by omega)
      split <;> omega
  · obtain ⟨j, rfl⟩ : ∃ j, u = T.rows.length + j := ⟨u - T.rows.length, by omega⟩
    by_cases h2 : v < T.rows.length
    · rw [rd_cr _ _ _ _ _ h2]
      have h3 := (hw.2 v h2).2 j (by omega)
      have h4 := ho.el h2 (j := j) (by omega)
      split <;> omega
    · obtain ⟨l, rfl⟩ : ∃ l, v = T.rows.length + l := ⟨v - T.rows.length, by omega⟩
      rw [rd_cc]; omega

set_option maxRecDepth 100000 in
set_option maxHeartbeats 3200000 in
theorem free_c (T : Tr) (X : List (List Int)) (a0 a1 a2 a3 ax : Option Addr) (c0 c1 c2 c3 cx n m i j Bt Bx Bi Bn Bj : Nat) (w : World) (hn : T.rows.length = n) (hm : T.cols.length = m) (h : TrR w (.agg #[.slice a0 n c0, .slice a1 m c1, .slice a2 n c2, .slice a3 n c3]) T) (hX : Grid w (.slice ax n cx) X) (ho : TrOk T) (hw : Within T X) (hi' : i < n) (hj' : j < m)
    (t0 : w.cell? ⟨Bt, 0, none⟩ = some (.slice a0 n c0)) (t1 : w.cell? ⟨Bt, 1, none⟩ = some (.slice a1 m c1)) (t2 : w.cell? ⟨Bt, 2, none⟩ = some (.slice a2 n c2)) (t3 : w.cell? ⟨Bt, 3, none⟩ = some (.slice a3 n c3)) (tx : w.cell? ⟨Bx, 0, none⟩ = some (.slice ax n cx))
    (ti : w.cell? ⟨Bi, 0, none⟩ = some (.int .i64 i)) (tn : w.cell? ⟨Bn, 0, none⟩ = some (.int .i64 n)) (tj : w.cell? ⟨Bj, 0, none⟩ = some (.int .i64 j)) :
    Calls Try.prog 75 #[.pointer (some ⟨Bt, 0, none⟩), .pointer (some ⟨Bx, 0, none⟩), .pointer (some ⟨Bi, 0, none⟩), .pointer (some ⟨Bn, 0, none⟩), .pointer (some ⟨Bj, 0, none⟩)] w fun e w' => ∃ (ao : Option Addr) (rvs : List Value) (R : List (List Int)), e = .returned (.slice ao (n + m) (n + m)) ∧
      OwnGA w.heap.size w'.heap.size w' ao rvs R ∧ Sq (n + m) R ∧ (∀ a b, a < n + m → b < n + m → elOf R a b = resD n (elOf T.lo) (elOf T.hi) (elOf X) (freeB i j) a b) ∧ Ext w w' := by
  have H := Lib.hid h; clear h
  have HX := Lib.hid hX; clear hX
  have HO := Lib.hid ho; clear ho
  have HW := Lib.hid hw; clear hw
  have d2 : n ≤ 8 := by rw [← hn]; exact HO.out.dims.2.1
  have d4 : m ≤ 8 := by rw [← hm]; exact HO.out.dims.2.2.2.1
  go_enter Try.func75, Try.ntmps75
  go_wp2_with fail
  have hcon := residual_c _ T _ X (-1) _ H.out HX.out HO.out HW.out ⟨by omega, by omega⟩
  rw [hn, hm] at hcon
  refine hcon.mono ?_
  rintro e w1 ⟨ao, rvs, R, rfl, og, sq, el, u1⟩
  clear hcon
  have HN := Lib.hid hn; clear hn
  have HM := Lib.hid hm; clear hm
  have HG := Lib.hid og; clear og
  have HS := Lib.hid sq; clear sq
  have HE := Lib.hid el; clear el
  have s0 := Ext.cell u1 ti
  have s1 := Ext.cell u1 tn
  have s2 := Ext.cell u1 tj
  obtain ⟨q, hq⟩ : ∃ q, n + j = q := ⟨_, rfl⟩
  have hqN : q < n + m := by omega
  have hiN : i < n + m := by omega
  have hiq : i ≠ q := by omega
  have eq1 : (n : Int) + (j : Int) = (q : Int) := by omega
  have HQ := Lib.hid hq; clear hq
  obtain ⟨N, hN⟩ : ∃ N, n + m = N := ⟨_, rfl⟩
  rw [hN] at HS HE hqN hiN ⊢
  have HNN := Lib.hid hN; clear hN
  have hN16 : N ≤ 16 := by have := HNN.out; omega
  -- the first store
  obtain ⟨bg, og, ex, _, _, _, hcp, _⟩ := HG.out.at_ (k := i) (by rw [HS.out.len]; exact hiN)
  obtain ⟨ap, cp, evp, ip1, ip2⟩ := HG.out.rowForm (k := i) (by rw [HS.out.len]; exact hiN)
  have hst1 := HG.out.store (k := i) (l := q) (by rw [HS.out.len]; exact hiN) (by rw [HS.out.row i hiN]; exact hqN) evp
  rw [evp, HS.out.row i hiN] at hcp
  rw [HS.out.row i hiN] at ip1
  obtain ⟨bp, op, q3, lp1, lp2, lp3, hce1, hfe, st1⟩ := hst1
  subst q3 ex
  have G3 := Lib.hid (st1 0); clear st1 evp
  have HQ3 := Lib.hid (HS.out.set (u := i) (v := q) 0)
  have HE3 := Lib.hid (elOf_set HS.out hiN hqN 0)
  obtain ⟨R3, hR3⟩ : ∃ R3, R.set i ((rowAt R i).set q 0) = R3 := ⟨_, rfl⟩
  rw [hR3] at G3 HQ3 HE3
  clear hR3
  -- the second
  obtain ⟨_, _, q2, _, _, _, hcu0, _⟩ := HG.out.at_ (k := q) (by rw [HS.out.len]; exact hqN)
  simp only [Option.some.injEq, Addr.mk.injEq, and_true] at q2
  obtain ⟨rfl, rfl⟩ := q2
  obtain ⟨_, _, q2, _, _, _, hcu, _⟩ := G3.out.at_ (k := q) (by rw [HQ3.out.len]; exact hqN)
  simp only [Option.some.injEq, Addr.mk.injEq, and_true] at q2
  obtain ⟨rfl, rfl⟩ := q2
  obtain ⟨au, cu, evu, iu1, iu2⟩ := G3.out.rowForm (k := q) (by rw [HQ3.out.len]; exact hqN)
  have hst2 := G3.out.store (k := q) (l := i) (by rw [HQ3.out.len]; exact hqN) (by rw [HQ3.out.row q hqN]; exact hiN) evu
  rw [evu, HQ3.out.row q hqN] at hcu hcu0
  rw [HQ3.out.row q hqN] at iu1
  obtain ⟨bu, ou, q3, lu1, lu2, lu3, hce2, hfe2, st2⟩ := hst2
  subst q3
  have G4 := Lib.hid (st2 0); clear st2 evu
  have HX2 := Lib.hid ((u1.setCell (a := ⟨bp, op + q, none⟩) (.int .i64 0) (by simp only; omega)).setCell (a := ⟨bu, ou + i, none⟩) (.int .i64 0) (by simp only; omega))
  clear t0 t1 t2 t3 tx ti tn tj
  go_wp2_with fail
  go_region
  go_wp2
  go_ret
  rw [HNN.out]
  refine ⟨some ⟨bg, og, none⟩, rvs, R3.set q ((rowAt R3 q).set i 0), rfl, (G4.out.ext ((Ext.refl _).drew)).mono (Nat.le_refl _) (by simp [World.setCell]), HQ3.out.set _, fun a b ha hb => ?_, HX2.out.drew⟩
  rw [elOf_set HQ3.out hqN hiN, HE3.out a b, HE.out a b ha hb, resD_free hi' a b, HQ.out]
  have e9 : resD n (elOf T.lo) (elOf T.hi) (elOf X) (pastB m (-1)) a b = resD n (elOf T.lo) (elOf T.hi) (elOf X) (fun _ _ => true) a b := resD_congr (m := m) (fun p q _ _ => (pastB_all m p q).symm) (by rw [HNN.out]; exact ha) (by rw [HNN.out]; exact hb)
  rw [e9]
set_option maxRecDepth 100000 in
set_option maxHeartbeats 1600000 in
theorem rangeOf_c (T : Tr) (X : List (List Int)) (a0 a1 a2 a3 ax : Option Addr) (c0 c1 c2 c3 cx n m i j : Nat) (w : World) (hn : T.rows.length = n) (hm : T.cols.length = m) (h : TrR w (.agg #[.slice a0 n c0, .slice a1 m c1, .slice a2 n c2, .slice a3 n c3]) T) (hX : Grid w (.slice ax n cx) X) (ho : TrOk T) (rc : Rc n m X) (hf : Flow (NetT T) (elOf X)) (hi' : i < n) (hj' : j < m) :
    Calls Try.prog 30 #[.agg #[.slice a0 n c0, .slice a1 m c1, .slice a2 n c2, .slice a3 n c3], .slice ax n cx, .int .i64 i, .int .i64 j] w fun e w' => e = .returned (.tuple #[.int .i64 (lowV T i j), .int .i64 (highV T i j)]) ∧ Ext w w' := by
  have H := Lib.hid h; clear h
  have HX := Lib.hid hX
  have HO := Lib.hid ho; clear ho
  have iT : i < T.rows.length := by rw [hn]; exact hi'
  have jT : j < T.cols.length := by rw [hm]; exact hj'
  have HW := Lib.hid (flow_within (by rw [hn, hm]; exact rc) hf)
  have HRC := Lib.hid rc; clear rc
  have HF := Lib.hid hf; clear hf
  have d2 : n ≤ 8 := by rw [← hn]; exact HO.out.dims.2.1
  have d4 : m ≤ 8 := by rw [← hm]; exact HO.out.dims.2.2.2.1
  have hce := HO.out.el iT jT
  have hwl : elOf T.lo i j ≤ elOf X i j := HF.out.lo i j iT jT
  have hwh : elOf X i j ≤ elOf T.hi i j := HF.out.hi i j iT jT
  -- the variables
  have u1 := (Ext.refl w).alloc (.cells #[.slice a0 n c0, .slice a1 m c1, .slice a2 n c2, .slice a3 n c3] 38)
  have u5 := (((u1.alloc (.cells #[.slice ax n cx] 22)).alloc (.cells #[.int .i64 i] 3)).alloc (.cells #[.int .i64 j] 3)).alloc (.cells #[.int .i64 n] 3)
  have bt := ((((Box.new w 38 #[.slice a0 n c0, .slice a1 m c1, .slice a2 n c2, .slice a3 n c3] rfl).alloc (.cells #[.slice ax n cx] 22)).alloc (.cells #[.int .i64 i] 3)).alloc (.cells #[.int .i64 j] 3)).alloc (.cells #[.int .i64 n] 3)
  have bx := (((Box.new (b := w.heap.size + 1) (w.alloc (.cells #[.slice a0 n c0, .slice a1 m c1, .slice a2 n c2, .slice a3 n c3] 38)) 22 #[.slice ax n cx] (by simp)).alloc (.cells #[.int .i64 i] 3)).alloc (.cells #[.int .i64 j] 3)).alloc (.cells #[.int .i64 n] 3)
  have bi := ((Box.new (b := w.heap.size + 2) ((w.alloc (.cells #[.slice a0 n c0, .slice a1 m c1, .slice a2 n c2, .slice a3 n c3] 38)).alloc (.cells #[.slice ax n cx] 22)) 3 #[.int .i64 i] (by simp)).alloc (.cells #[.int .i64 j] 3)).alloc (.cells #[.int .i64 n] 3)
  have bj := (Box.new (b := w.heap.size + 3) (((w.alloc (.cells #[.slice a0 n c0, .slice a1 m c1, .slice a2 n c2, .slice a3 n c3] 38)).alloc (.cells #[.slice ax n cx] 22)).alloc (.cells #[.int .i64 i] 3)) 3 #[.int .i64 j] (by simp)).alloc (.cells #[.int .i64 n] 3)
  have bn := Box.new (b := w.heap.size + 4) ((((w.alloc (.cells #[.slice a0 n c0, .slice a1 m c1, .slice a2 n c2, .slice a3 n c3] 38)).alloc (.cells #[.slice ax n cx] 22)).alloc (.cells #[.int .i64 i] 3)).alloc (.cells #[.int .i64 j] 3)) 3 #[.int .i64 n] (by simp)
  have k0 := bt.cell 0 (by simp)
  have k1 := bt.cell 1 (by simp)
  have k2 := bt.cell 2 (by simp)
  have k3 := bt.cell 3 (by simp)
  have kx := bx.cell 0 (by simp)
  have ki := bi.cell 0 (by simp)
  have kj := bj.cell 0 (by simp)
  have kn := bn.cell 0 (by simp)
  obtain ⟨ws, hws⟩ : ∃ ws, (((((w.alloc (.cells #[.slice a0 n c0, .slice a1 m c1, .slice a2 n c2, .slice a3 n c3] 38)).alloc (.cells #[.slice ax n cx] 22)).alloc (.cells #[.int .i64 i] 3)).alloc (.cells #[.int .i64 j] 3)).alloc (.cells #[.int .i64 n] 3)) = ws := ⟨_, rfl⟩
  rw [hws] at u5 k0 k1 k2 k3 kx ki kj kn
  have HWS := Lib.hid hws; clear hws bt bx bi bj bn u1
  -- the elements
  obtain ⟨_, _, e9, _, _, gx⟩ := hX.ext u5
  simp only [Value.slice.injEq] at e9
  obtain ⟨rfl, e8, rfl⟩ := e9
  clear e8 hX
  obtain ⟨bX, oX, aX, cX, rfl, hcX, x1_, x2_, x3_⟩ := gx.at_ (k := i) (by rw [HRC.out.len]; exact hi')
  obtain ⟨b5, o5, rfl, hx5⟩ := x3_ j (by rw [HRC.out.row i hi']; exact hj')
  rw [HRC.out.row i hi'] at hcX x1_
  clear x3_ gx
  obtain ⟨_, _, e9, _, _, gl⟩ := H.out.f2.ext u5
  simp only [Value.slice.injEq] at e9
  obtain ⟨rfl, e8, rfl⟩ := e9
  clear e8
  obtain ⟨bl, ol, al, cl, rfl, hcl, l1_, l2_, l3_⟩ := gl.at_ (k := i) (by rw [HO.out.rcLo.len]; exact iT)
  obtain ⟨b6, o6, rfl, hx6⟩ := l3_ j (by rw [HO.out.rcLo.row i iT]; exact jT)
  rw [HO.out.rcLo.row i iT, hm] at hcl l1_
  clear l3_ gl
  obtain ⟨_, _, e9, _, _, gh⟩ := H.out.f3.ext u5
  simp only [Value.slice.injEq] at e9
  obtain ⟨rfl, e8, rfl⟩ := e9
  clear e8
  obtain ⟨bh, oh, ah, ch, rfl, hch, h1_, h2_, h3_⟩ := gh.at_ (k := i) (by rw [HO.out.rcHi.len]; exact iT)
  obtain ⟨b7, o7, rfl, hx7⟩ := h3_ j (by rw [HO.out.rcHi.row i iT]; exact jT)
  rw [HO.out.rcHi.row i iT, hm] at hch h1_
  clear h3_ gh
  have q7 : ix (rowAt T.hi i) j = elOf T.hi i j := rfl
  have q6 : ix (rowAt T.lo i) j = elOf T.lo i j := rfl
  have q5 : ix (rowAt X i) j = elOf X i j := rfl
  rw [q7] at hx7
  rw [q6] at hx6
  rw [q5] at hx5
  clear q5 q6 q7
  obtain ⟨L, hL⟩ : ∃ L, elOf T.lo i j = L := ⟨_, rfl⟩
  obtain ⟨U, hU⟩ : ∃ U, elOf T.hi i j = U := ⟨_, rfl⟩
  obtain ⟨V, hV⟩ : ∃ V, elOf X i j = V := ⟨_, rfl⟩
  rw [hL] at hx6 hce hwl
  rw [hU] at hx7 hce hwh
  rw [hV] at hx5 hwl hwh
  have HL := Lib.hid hL; clear hL
  have HU := Lib.hid hU; clear hU
  have HV := Lib.hid hV; clear hV
  obtain ⟨q, hq⟩ : ∃ q, n + j = q := ⟨_, rfl⟩
  have eq1 : (n : Int) + (j : Int) = (q : Int) := by omega
  have hw1 : IntKind.i64.wrap (q : Int) = (q : Int) := IntWalk.i64_in _ (by omega)
  have hqN : q < n + m := by omega
  have hiq : i ≠ q := by omega
  have HQ := Lib.hid hq; clear hq
  obtain ⟨D, hD⟩ : ∃ D, V - L = D := ⟨_, rfl⟩
  obtain ⟨E, hE⟩ : ∃ E, U - V = E := ⟨_, rfl⟩
  have hw2 : IntKind.i64.wrap (V - L) = D := by rw [IntWalk.i64_in _ (by omega)]; exact hD
  have hw3 : IntKind.i64.wrap (U - V) = E := by rw [IntWalk.i64_in _ (by omega)]; exact hE
  have hDb : 0 ≤ D ∧ D ≤ 100000 := by omega
  have hEb : 0 ≤ E ∧ E ≤ 100000 := by omega
  have HD := Lib.hid hD; clear hD
  have HE := Lib.hid hE; clear hE
  have HN := Lib.hid hn; clear hn
  have HM := Lib.hid hm; clear hm
  have HIT := Lib.hid iT; clear iT
  have HJT := Lib.hid jT; clear jT
  have HB : Hid (∀ R, (∀ a b, a < n + m → b < n + m → elOf R a b = resD n (elOf T.lo) (elOf T.hi) (elOf X) (freeB i j) a b) → ∀ u v, u < n + m → v < n + m → 0 ≤ elOf R u v ∧ elOf R u v ≤ 1000000000) := Lib.hid (fun R hR u v hu hv => by
    rw [hR u v hu hv]
    have h9 := resD_bound HO.out HW.out (freeB i j) (u := u) (v := v) (by rw [HN.out, HM.out]; exact hu) (by rw [HN.out, HM.out]; exact hv)
    rw [HN.out] at h9; exact h9)
  have hN18 : n + m ≤ 18 := by omega
  have hiN : i < n + m := by omega
  have hDr : -1000000000 ≤ D ∧ D ≤ 1000000000 := by omega
  have hEr : -1000000000 ≤ E ∧ E ≤ 1000000000 := by omega
  have hcapN : n + m ≤ n + m ∧ n + m ≤ 9223372036854775807 := by omega
  have hqi : q ≠ i := fun e => hiq e.symm
  go_enter Try.func30, Try.ntmps30
  go_wp2_with fail
  rw [HWS.out]
  go_quiet (fail)
  obtain ⟨wb, hwb⟩ : ∃ wb, ws.drewN nq = wb := ⟨_, rfl⟩
  have xb : Ext ws wb := by rw [← hwb]; exact (Ext.refl ws).drewN nq
  have y0 : wb.cell? ⟨w.heap.size, 0, none⟩ = some (.slice a0 n c0) := Ext.cell xb k0
  have d0 : wb.drew.cell? ⟨w.heap.size, 0, none⟩ = some (.slice a0 n c0) := y0
  have y1 : wb.cell? ⟨w.heap.size, 1, none⟩ = some (.slice a1 m c1) := Ext.cell xb k1
  have d1 : wb.drew.cell? ⟨w.heap.size, 1, none⟩ = some (.slice a1 m c1) := y1
  have y2 : wb.cell? ⟨w.heap.size, 2, none⟩ = some (.slice (some ⟨bl, ol, none⟩) n c2) := Ext.cell xb k2
  have d2 : wb.drew.cell? ⟨w.heap.size, 2, none⟩ = some (.slice (some ⟨bl, ol, none⟩) n c2) := y2
  have y3 : wb.cell? ⟨w.heap.size, 3, none⟩ = some (.slice (some ⟨bh, oh, none⟩) n c3) := Ext.cell xb k3
  have d3 : wb.drew.cell? ⟨w.heap.size, 3, none⟩ = some (.slice (some ⟨bh, oh, none⟩) n c3) := y3
  have yx : wb.cell? ⟨w.heap.size + 1, 0, none⟩ = some (.slice (some ⟨bX, oX, none⟩) n cx) := Ext.cell xb kx
  have dx : wb.drew.cell? ⟨w.heap.size + 1, 0, none⟩ = some (.slice (some ⟨bX, oX, none⟩) n cx) := yx
  have yi : wb.cell? ⟨w.heap.size + 2, 0, none⟩ = some (.int .i64 i) := Ext.cell xb ki
  have di : wb.drew.cell? ⟨w.heap.size + 2, 0, none⟩ = some (.int .i64 i) := yi
  have yj : wb.cell? ⟨w.heap.size + 3, 0, none⟩ = some (.int .i64 j) := Ext.cell xb kj
  have dj : wb.drew.cell? ⟨w.heap.size + 3, 0, none⟩ = some (.int .i64 j) := yj
  have yn : wb.cell? ⟨w.heap.size + 4, 0, none⟩ = some (.int .i64 n) := Ext.cell xb kn
  have dn : wb.drew.cell? ⟨w.heap.size + 4, 0, none⟩ = some (.int .i64 n) := yn
  have yl := Ext.cell xb hcl
  have y6 := Ext.cell xb hx6
  have yh := Ext.cell xb hch
  have y7 := Ext.cell xb hx7
  have xw := u5.trans xb
  clear k0 k1 k2 k3 kx ki kj kn hcl hx6 hch hx7 hcX hx5
  go_wp2_with fail
  rw [hwb]
  clear hwb
  go_region_held3 (fun x => x.cell? ⟨w.heap.size, 0, none⟩ = some (.slice a0 n c0) ∧ x.cell? ⟨w.heap.size, 1, none⟩ = some (.slice a1 m c1) ∧ x.cell? ⟨w.heap.size, 2, none⟩ = some (.slice (some ⟨bl, ol, none⟩) n c2) ∧ x.cell? ⟨w.heap.size, 3, none⟩ = some (.slice (some ⟨bh, oh, none⟩) n c3) ∧ x.cell? ⟨w.heap.size + 1, 0, none⟩ = some (.slice (some ⟨bX, oX, none⟩) n cx) ∧ x.cell? ⟨w.heap.size + 2, 0, none⟩ = some (.int .i64 i) ∧ x.cell? ⟨w.heap.size + 3, 0, none⟩ = some (.int .i64 j) ∧ x.cell? ⟨w.heap.size + 4, 0, none⟩ = some (.int .i64 n) ∧
      x.cell? ⟨bl, ol + i, none⟩ = some (.slice (some ⟨b6, o6, none⟩) m cl) ∧ x.cell? ⟨b6, o6 + j, none⟩ = some (.int .i64 L) ∧ x.cell? ⟨bh, oh + i, none⟩ = some (.slice (some ⟨b7, o7, none⟩) m ch) ∧ x.cell? ⟨b7, o7 + j, none⟩ = some (.int .i64 U))
    (first | exact ⟨E4.cell y0, E4.cell y1, E4.cell y2, E4.cell y3, E4.cell yx, E4.cell yi, E4.cell yj, E4.cell yn, E4.cell yl, E4.cell y6, E4.cell yh, E4.cell y7⟩
           | exact ⟨E3.cell y0, E3.cell y1, E3.cell y2, E3.cell y3, E3.cell yx, E3.cell yi, E3.cell yj, E3.cell yn, E3.cell yl, E3.cell y6, E3.cell yh, E3.cell y7⟩
           | exact ⟨E2.cell y0, E2.cell y1, E2.cell y2, E2.cell y3, E2.cell yx, E2.cell yi, E2.cell yj, E2.cell yn, E2.cell yl, E2.cell y6, E2.cell yh, E2.cell y7⟩
           | exact ⟨E1.cell y0, E1.cell y1, E1.cell y2, E1.cell y3, E1.cell yx, E1.cell yi, E1.cell yj, E1.cell yn, E1.cell yl, E1.cell y6, E1.cell yh, E1.cell y7⟩ | go_keep)
    ((first
      | (go_at_call 75; (with_reducible refine (free_c T X a0 a1 (some ⟨bl, ol, none⟩) (some ⟨bh, oh, none⟩) (some ⟨bX, oX, none⟩) c0 c1 c2 c3 cx n m i j w.heap.size (w.heap.size + 1) (w.heap.size + 2) (w.heap.size + 4) (w.heap.size + 3) w2 HN.out HM.out ((H.out.ext xw).ext E2) ((HX.out.ext xw).ext E2) HO.out HW.out hi' hj' (E2.cell y0) (E2.cell y1) (E2.cell y2) (E2.cell y3) (E2.cell yx) (E2.cell yi) (E2.cell yn) (E2.cell yj)).mono ?_); rintro e w3 ⟨ao3, rv3, R3, rfl, g3, s3, l3, u3⟩; have G3 := Lib.hid g3; clear g3; have S3 := Lib.hid s3; clear s3; have L3 := Lib.hid l3; clear l3; have E3 := E2.trans u3)
      | (go_at_call 75; (with_reducible refine (free_c T X a0 a1 (some ⟨bl, ol, none⟩) (some ⟨bh, oh, none⟩) (some ⟨bX, oX, none⟩) c0 c1 c2 c3 cx n m i j w.heap.size (w.heap.size + 1) (w.heap.size + 2) (w.heap.size + 4) (w.heap.size + 3) wb.drew HN.out HM.out ((H.out.ext xw).ext (Ext.refl _).drew) ((HX.out.ext xw).ext (Ext.refl _).drew) HO.out HW.out hi' hj' d0 d1 d2 d3 dx di dn dj).mono ?_); rintro e w1 ⟨ao1, rv1, R1, rfl, g1, s1, l1, u1⟩; have G1 := Lib.hid g1; clear g1; have S1 := Lib.hid s1; clear s1; have L1 := Lib.hid l1; clear l1; have E1 := (Ext.refl wb).drew.trans u1)
      | (go_at_call 77; (with_reducible refine (push_c w2.heap.size w3.heap.size ao3 (n + m) rv3 R3 (n + m) q i E w3 G3.out S3.out hcapN hN18 hqN hiN hqi (HB.out R3 L3.out) hEr (Nat.le_refl _)).mono ?_); rintro e w4 ⟨sent2, R4, rfl, g4, s4, p4, U4⟩; have E4 := E3.of_upd U4 (fun b hb => Nat.le_trans E2.size hb.1); clear g4 s4; have P4 := Lib.hid p4; clear p4)
      | (go_at_call 77; (with_reducible refine (push_c wb.drew.heap.size w1.heap.size ao1 (n + m) rv1 R1 (n + m) i q D w1 G1.out S1.out hcapN hN18 hiN hqN hiq (HB.out R1 L1.out) hDr (Nat.le_refl _)).mono ?_); rintro e w2 ⟨sent1, R2, rfl, g2, s2, p2, U2⟩; have E2 := E1.of_upd U2 (fun b hb => by simp at hb; omega); clear g2 s2; have P2 := Lib.hid p2; clear p2)))
  have hpl : Pushed (T.rows.length + T.cols.length) (resD T.rows.length (elOf T.lo) (elOf T.hi) (elOf X) (freeB i j)) i (T.rows.length + j) (elOf X i j - elOf T.lo i j) sent1 (elOf R2) := by
    rw [HN.out, HM.out, HQ.out, HV.out, HL.out, HD.out]
    exact P2.out.congr (by omega) (fun u v hu hv => (L1.out u v hu hv).symm) (fun _ _ _ _ => rfl)
  have hph : Pushed (T.rows.length + T.cols.length) (resD T.rows.length (elOf T.lo) (elOf T.hi) (elOf X) (freeB i j)) (T.rows.length + j) i (elOf T.hi i j - elOf X i j) sent2 (elOf R4) := by
    rw [HN.out, HM.out, HQ.out, HV.out, HU.out, HE.out]
    exact P4.out.congr hqN (fun u v hu hv => (L3.out u v hu hv).symm) (fun _ _ _ _ => rfl)
  have r1 := range_low HF.out HIT.out HJT.out hpl
  have r2 := range_high HF.out HIT.out HJT.out hph
  rw [HV.out, HL.out] at r1
  rw [HV.out, HU.out] at r2
  have e1 : IntKind.i64.wrap (V - sent1) = V - sent1 := IntWalk.i64_in _ (by omega)
  have e2 : IntKind.i64.wrap (V + sent2) = V + sent2 := IntWalk.i64_in _ (by omega)
  have RR := Lib.hid (And.intro (e1.trans r1.1.symm) (e2.trans r2.1.symm))
  have RS := Lib.hid (And.intro r1.1 r2.1)
  have RT : Hid (wrap64 (V - sent1) = lowV T i j ∧ wrap64 (V + sent2) = highV T i j) := Lib.hid ⟨by rw [r1.1]; unfold wrap64; omega, by rw [r2.1]; unfold wrap64; omega⟩
  clear r1 r2 e1 e2 hpl hph
  have hfin := xw.trans E4
  go_wp2
  go_ret2
  refine ⟨?_, hfin⟩
  first
    | (rw [← RR.out.1, ← RR.out.2] <;> rfl)
    | (rw [RS.out.1, RS.out.2] <;> rfl)
    | (rw [← RT.out.1, ← RT.out.2] <;> rfl)
end Go.Proofs.Ytodnkahnbidgaaa
