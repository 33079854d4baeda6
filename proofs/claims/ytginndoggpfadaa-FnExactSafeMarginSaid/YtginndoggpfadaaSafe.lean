/- How far a hidden cell is safe, and whether it is protected; the spec's and the program's: SafeMargin, IsProtected. -/
import Derived.Test.YtginndoggpfadaaHid
import Derived.Test.YtginndoggpfadaaSrange
import Derived.Test.YtginndoggpfadaaRangeW
namespace Go.Proofs.Ytginndoggpfadaa
open Go.RowKit
open Fm

noncomputable def smDown (x p : List (List Int)) (i j : Int) : Int := if hidB x p i j = true then elOf x i.toNat j.toNat - qLo x p i.toNat j.toNat else 0
noncomputable def smUp (x p : List (List Int)) (i j : Int) : Int := if hidB x p i j = true then qHi x p i.toNat j.toNat - elOf x i.toNat j.toNat else 0
/-- protected: the least value at most max 0 (value - down), the greatest at least value + up -/
noncomputable def protB (x p : List (List Int)) (i j : Nat) (down up : Int) : Bool := decide (qLo x p i j ≤ imax (elOf x i j - down) 0) && decide (elOf x i j + up ≤ qHi x p i j)
def levB (down up : Int) : Bool := (decide (0 ≤ down) && decide (down ≤ 1000)) && (decide (0 ≤ up) && decide (up ≤ 1000))
noncomputable def ipB (x p : List (List Int)) (i j down up : Int) : Bool := hidB x p i j && levB down up
noncomputable def ipV (x p : List (List Int)) (i j down up : Int) : Bool := ipB x p i j down up && protB x p i.toNat j.toNat down up
/-- an attack's network in memory, its fields' lengths as those of the table -/
theorem atk_form {x p : List (List Int)} (h : pubB x p = true) {w : World} {v : Value} (hr : TrR w v (atkT x p)) : ∃ a0 c0 a1 c1 a2 c2 a3 c3, v = .agg #[.slice a0 x.length c0, .slice a1 (rowAt x 0).length c1, .slice a2 x.length c2, .slice a3 x.length c3] := by
  obtain ⟨a0, c0, a1, c1, a2, c2, a3, c3, rfl, _⟩ := hr.form
  have e1 : (atkT x p).lo.length = x.length := by rw [(atk_ok h).rcLo.len, atk_rl]
  have e2 : (atkT x p).hi.length = x.length := by rw [(atk_ok h).rcHi.len, atk_rl]
  rw [atk_rl, atk_cl, e1, e2]
  exact ⟨a0, c0, a1, c1, a2, c2, a3, c3, rfl⟩

set_option maxRecDepth 100000 in
set_option maxHeartbeats 1600000 in
theorem implSafe_c (v1 : Value) (x : List (List Int)) (v2 : Value) (p : List (List Int)) (i j : Int) (w : World) (h1 : Grid w v1 x) (h2 : Grid w v2 p) :
    Calls Try.prog 15 #[v1, v2, .int .i64 i, .int .i64 j] w fun e w' => e = .returned (.tuple #[.int .i64 (smDown x p i j), .int .i64 (smUp x p i j), .bool (hidB x p i j)]) ∧ Ext w w' := by
  have H1 := Lib.hid h1
  have H2 := Lib.hid h2
  obtain ⟨ax, cx, rfl, x1, x2, x3⟩ := h1
  have GX := Lib.hid x3; clear x3
  obtain ⟨ap, cp, rfl, p1, p2, p3⟩ := h2
  clear p3
  cases hp : pubB x p
  · have hB : hidB x p i j = false := by simp only [hidB, hp, Bool.false_and]
    simp only [smDown, smUp, hB, Bool.false_eq_true, if_false]
    clear hB
    have HP := Lib.hid hp; clear hp
    go_enter Try.func15, Try.ntmps15
    go_wp2_with fail
    refine (areSuppressed_b false _ _ x p _ HP.out H1.out H2.out).mono ?_
    rintro e w ⟨rfl, rfl⟩
    go_wp2
    go_ret3
    exact ⟨rfl, Ext.refl _⟩
  have HP := Lib.hid hp; clear hp
  cases hB : hidB x p i j
  · simp only [smDown, smUp, hB, Bool.false_eq_true, if_false]
    have HB := Lib.hid hB; clear hB
    go_enter Try.func15, Try.ntmps15
    go_wp2_with fail
    refine (areSuppressed_b true _ _ x p _ HP.out H1.out H2.out).mono ?_
    rintro e w ⟨rfl, rfl⟩
    go_wp2_with fail
    refine (isHidden_b false x _ p i j _ HP.out HB.out H2.out).mono ?_
    rintro e w1 ⟨rfl, u1⟩
    go_wp2
    go_ret3
    exact ⟨rfl, u1⟩
  have hh := hidB_true hB
  obtain ⟨_, a, c, rfl, rfl, han, hcm, hone⟩ := hh
  have eD : smDown x p (a : Int) (c : Int) = elOf x a c - qLo x p a c := by simp [smDown, hB]
  have eU : smUp x p (a : Int) (c : Int) = qHi x p a c - elOf x a c := by simp [smUp, hB]
  rw [eD, eU]
  clear eD eU
  have HB := Lib.hid hB; clear hB hone
  have HRX := Lib.hid (pub_rc HP.out)
  have hqb := q_bound HP.out han hcm
  have hxe := pub_el HP.out han hcm
  obtain ⟨VL, hVL⟩ : ∃ V, qLo x p a c = V := ⟨_, rfl⟩
  obtain ⟨VH, hVH⟩ : ∃ V, qHi x p a c = V := ⟨_, rfl⟩
  rw [hVL, hVH] at hqb ⊢
  have HVL : Hid (lowV (atkT x p) a c = VL) := Lib.hid hVL
  have HVH : Hid (highV (atkT x p) a c = VH) := Lib.hid hVH
  clear hVL hVH
  obtain ⟨m, hm⟩ : ∃ m, (rowAt x 0).length = m := ⟨_, rfl⟩
  rw [hm] at HRX hcm
  have HM := Lib.hid hm; clear hm
  obtain ⟨b5, o5, ar, cr, rfl, hc5, r1, r2, r3⟩ := GX.out.at_ (k := a) han
  obtain ⟨b6, o6, rfl, hx6⟩ := r3 c (by rw [HRX.out.row a han]; exact hcm)
  rw [HRX.out.row a han] at hc5 r1
  have q6 : ix (rowAt x a) c = elOf x a c := rfl
  rw [q6] at hx6
  clear q6 r3
  obtain ⟨X, hX⟩ : ∃ V, elOf x a c = V := ⟨_, rfl⟩
  rw [hX] at hqb hxe hx6 ⊢
  clear hX
  go_enter Try.func15, Try.ntmps15
  go_wp2_with fail
  refine (areSuppressed_b true _ _ x p _ HP.out H1.out H2.out).mono ?_
  rintro e w ⟨rfl, rfl⟩
  go_wp2_with fail
  refine (isHidden_b true x _ p a c _ HP.out HB.out H2.out).mono ?_
  rintro e w1 ⟨rfl, u1⟩
  go_wp2_with fail
  refine (attackNetwork_c _ x _ p _ (H1.out.ext u1) (H2.out.ext u1) HP.out).mono ?_
  rintro e w2 ⟨v2, rfl, ot, u2⟩
  have hr := ot.read
  clear ot
  obtain ⟨a0, c0, a1, c1, a2, c2, a3, c3, rfl⟩ := atk_form HP.out hr
  rw [HM.out] at hr ⊢
  have HR := Lib.hid hr; clear hr
  have x2' := u1.trans u2
  go_wp2_with fail
  refine (rangeOf_c (atkT x p) x a0 a1 a2 a3 (some ⟨b5, o5, none⟩) c0 c1 c2 c3 cx x.length m a c _ (atk_rl x p) (by rw [atk_cl, HM.out]) HR.out (H1.out.ext x2') (atk_ok HP.out) HRX.out (atk_flow HP.out) han hcm).mono ?_
  rw [HVL.out, HVH.out]
  rintro e w3 ⟨rfl, u3⟩
  have x3' := x2'.trans u3
  have y5 := Ext.cell x3' hc5
  have y6 := Ext.cell x3' hx6
  go_wp2_with fail
  go_quiet (fail)
  go_wp2
  go_ret3
  exact ⟨rfl, x3'.drewN _⟩
set_option maxRecDepth 100000 in
set_option maxHeartbeats 1600000 in
theorem specSafe_c (v1 : Value) (x : List (List Int)) (v2 : Value) (p : List (List Int)) (i j : Int) (w : World) (h1 : Grid w v1 x) (h2 : Grid w v2 p) :
    Calls Try.prog 14 #[v1, v2, .int .i64 i, .int .i64 j] w fun e w' => e = .returned (.tuple #[.int .i64 (smDown x p i j), .int .i64 (smUp x p i j), .bool (hidB x p i j)]) ∧ Ext w w' := by
  have H1 := Lib.hid h1
  have H2 := Lib.hid h2
  obtain ⟨ax, cx, rfl, x1, x2, x3⟩ := h1
  have GX := Lib.hid x3; clear x3
  obtain ⟨ap, cp, rfl, p1, p2, p3⟩ := h2
  clear p3
  cases hB : hidB x p i j
  · simp only [smDown, smUp, hB, Bool.false_eq_true, if_false]
    have HB := Lib.hid hB; clear hB
    go_enter Try.func14, Try.ntmps14
    go_wp2_with fail
    refine (vCell_b false _ x _ p i j _ HB.out H1.out H2.out).mono ?_
    rintro e w1 ⟨rfl, u1⟩
    go_wp2
    go_ret3
    exact ⟨rfl, u1⟩
  have hh := hidB_true hB
  obtain ⟨hp, a, c, rfl, rfl, han, hcm, hone⟩ := hh
  have HP := Lib.hid hp; clear hp
  have eD : smDown x p (a : Int) (c : Int) = elOf x a c - qLo x p a c := by simp [smDown, hB]
  have eU : smUp x p (a : Int) (c : Int) = qHi x p a c - elOf x a c := by simp [smUp, hB]
  rw [eD, eU]
  clear eD eU
  have HB := Lib.hid hB; clear hB hone
  have HRX := Lib.hid (pub_rc HP.out)
  have hqb := q_bound HP.out han hcm
  have hxe := pub_el HP.out han hcm
  obtain ⟨VL, hVL⟩ : ∃ V, qLo x p a c = V := ⟨_, rfl⟩
  obtain ⟨VH, hVH⟩ : ∃ V, qHi x p a c = V := ⟨_, rfl⟩
  rw [hVL, hVH] at hqb ⊢
  have HVL : Hid (lowV (atkT x p) a c = VL) := Lib.hid hVL
  have HVH : Hid (highV (atkT x p) a c = VH) := Lib.hid hVH
  clear hVL hVH
  obtain ⟨m, hm⟩ : ∃ m, (rowAt x 0).length = m := ⟨_, rfl⟩
  rw [hm] at HRX hcm
  have HM := Lib.hid hm; clear hm
  obtain ⟨b5, o5, ar, cr, rfl, hc5, r1, r2, r3⟩ := GX.out.at_ (k := a) han
  obtain ⟨b6, o6, rfl, hx6⟩ := r3 c (by rw [HRX.out.row a han]; exact hcm)
  rw [HRX.out.row a han] at hc5 r1
  have q6 : ix (rowAt x a) c = elOf x a c := rfl
  rw [q6] at hx6
  clear q6 r3
  obtain ⟨X, hX⟩ : ∃ V, elOf x a c = V := ⟨_, rfl⟩
  rw [hX] at hqb hxe hx6 ⊢
  clear hX
  go_enter Try.func14, Try.ntmps14
  go_wp2_with fail
  refine (vCell_b true _ x _ p a c _ HB.out H1.out H2.out).mono ?_
  rintro e w1 ⟨rfl, u1⟩
  go_wp2_with fail
  refine (qNetwork_c _ x _ p _ (H1.out.ext u1) (H2.out.ext u1) HP.out).mono ?_
  rintro e w2 ⟨v2, rfl, ot, u2⟩
  have hr := ot.read
  clear ot
  obtain ⟨a0, c0, a1, c1, a2, c2, a3, c3, rfl⟩ := atk_form HP.out hr
  rw [HM.out] at hr ⊢
  have HR := Lib.hid hr; clear hr
  have x2' := u1.trans u2
  go_wp2_with fail
  refine (tRange_c true (atkT x p) a0 a1 a2 a3 c0 c1 c2 c3 x.length m a c _ (atk_feas HP.out) (atk_rl x p) (by rw [atk_cl, HM.out]) HR.out (atk_ok HP.out) han hcm).mono ?_
  simp only [if_true]
  rw [HVL.out, HVH.out]
  rintro e w3 ⟨rfl, u3⟩
  have x3' := x2'.trans u3
  have y5 := Ext.cell x3' hc5
  have y6 := Ext.cell x3' hx6
  go_wp2_with fail
  go_quiet (fail)
  go_wp2
  go_ret3
  exact ⟨rfl, x3'.drewN _⟩
end Go.Proofs.Ytginndoggpfadaa
