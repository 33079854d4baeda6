/- Whether a cell is hidden, the spec's and the program's; margins. -/
import Derived.Test.YtginndoggpfadaaAtkP
import Derived.Test.YtginndoggpfadaaQnet
namespace Go.Proofs.Ytginndoggpfadaa
open Go.RowKit
open Fm

def inB (n : Nat) (i : Int) : Bool := decide (0 ≤ i) && decide (i < n)
theorem inB_true {n : Nat} {i : Int} : inB n i = true ↔ 0 ≤ i ∧ i < n := by simp [inB]
theorem inB_false {n : Nat} {i : Int} : inB n i = false ↔ ¬ (0 ≤ i ∧ i < n) := by
  rw [← inB_true]; simp
def hidB (x p : List (List Int)) (i j : Int) : Bool := pubB x p && (inB x.length i && (inB (rowAt x 0).length j && decide (elOf p i.toNat j.toNat = 1)))
theorem hidB_true {x p : List (List Int)} {i j : Int} (h : hidB x p i j = true) : pubB x p = true ∧ ∃ a b : Nat, i = a ∧ j = b ∧ a < x.length ∧ b < (rowAt x 0).length ∧ elOf p a b = 1 := by
  simp only [hidB, Bool.and_eq_true, inB_true, decide_eq_true_eq] at h
  refine ⟨h.1, i.toNat, j.toNat, by omega, by omega, by omega, by omega, h.2.2.2⟩
theorem pat_rc {x p : List (List Int)} (h : pubB x p = true) : Rc x.length (rowAt x 0).length p := by
  have sh := pubB_shape h
  exact ⟨sh.2.1, fun i hi => by rw [(sh.2.2.2.2 i hi).2.2]; exact (pub_rc h).row i hi⟩

set_option maxRecDepth 100000 in
set_option maxHeartbeats 1600000 in
theorem vCell_b (b : Bool) (v1 : Value) (x : List (List Int)) (v2 : Value) (p : List (List Int)) (i j : Int) (w : World) (hb : hidB x p i j = b) (h1 : Grid w v1 x) (h2 : Grid w v2 p) :
    Calls Try.prog 33 #[v1, v2, .int .i64 i, .int .i64 j] w fun e w' => e = .returned (.bool b) ∧ Ext w w' := by
  subst hb
  have H1 := Lib.hid h1
  have H2 := Lib.hid h2
  obtain ⟨ax, cx, rfl, x1, x2, x3⟩ := h1
  have GX := Lib.hid x3; clear x3
  obtain ⟨ap, cp, rfl, p1, p2, p3⟩ := h2
  have GP := Lib.hid p3; clear p3
  cases hp : pubB x p
  · have hB : hidB x p i j = false := by simp only [hidB, hp, Bool.false_and]
    rw [hB]; clear hB
    have HP := Lib.hid (show (gridB 8 1000 x && patB x p) = false from hp); clear hp
    go_enter Try.func33, Try.ntmps33
    go_wp2_with fail
    refine (qPattern_b false _ _ x p _ HP.out H1.out H2.out).mono ?_
    rintro e w1 ⟨rfl, d1⟩
    have u1 := Drew.ext d1
    go_wp2
    go_ret
    exact ⟨rfl, u1⟩
  have HP := Lib.hid (show (gridB 8 1000 x && patB x p) = true from hp)
  have hd := atk_dims hp
  have HRX := Lib.hid (pub_rc hp)
  have HRP := Lib.hid (pat_rc hp)
  have HPB := Lib.hid hp; clear hp
  obtain ⟨b0, o0, r0, cr0, rfl, hc0, q1, q2, q3⟩ := GX.out.at_ (k := 0) (by omega)
  clear q3
  rw [Nat.add_zero] at hc0
  obtain ⟨m, hm⟩ : ∃ m, (rowAt x 0).length = m := ⟨_, rfl⟩
  rw [hm] at hc0 q1 hd HRX HRP
  have HM := Lib.hid hm; clear hm
  cases hi : inB x.length i
  · have hB : hidB x p i j = false := by simp only [hidB, hi, Bool.false_and, Bool.and_false]
    rw [hB]; clear hB
    have HI : Hid ((decide (0 ≤ i) && decide (i ≤ (x.length : Int) - 1)) = false) := Lib.hid (by have := inB_false.1 hi; rw [Bool.and_eq_false_iff]; simp only [decide_eq_false_iff_not]; omega)
    clear hi
    go_enter Try.func33, Try.ntmps33
    go_wp2_with fail
    refine (qPattern_b true _ _ x p _ HP.out H1.out H2.out).mono ?_
    rintro e w1 ⟨rfl, d1⟩
    have u1 := Drew.ext d1
    have z0 := Ext.cell u1 hc0
    go_wp2_with fail
    refine (l1In_b false i 0 ((x.length : Int) - 1) _ HI.out).mono ?_
    rintro e w2 ⟨rfl, rfl⟩
    go_wp2
    go_ret
    exact ⟨rfl, u1⟩
  have HI : Hid ((decide (0 ≤ i) && decide (i ≤ (x.length : Int) - 1)) = true) := Lib.hid (by have := inB_true.1 hi; rw [Bool.and_eq_true]; simp only [decide_eq_true_eq]; omega)
  cases hj : inB m j
  · have hB : hidB x p i j = false := by simp only [hidB, HM.out, hj, Bool.false_and, Bool.and_false]
    rw [hB]; clear hB
    have HJ : Hid ((decide (0 ≤ j) && decide (j ≤ (m : Int) - 1)) = false) := Lib.hid (by have := inB_false.1 hj; rw [Bool.and_eq_false_iff]; simp only [decide_eq_false_iff_not]; omega)
    clear hi hj
    go_enter Try.func33, Try.ntmps33
    go_wp2_with fail
    refine (qPattern_b true _ _ x p _ HP.out H1.out H2.out).mono ?_
    rintro e w1 ⟨rfl, d1⟩
    have u1 := Drew.ext d1
    have z0 := Ext.cell u1 hc0
    go_wp2_with fail
    refine (l1In_b true i 0 ((x.length : Int) - 1) _ HI.out).mono ?_
    rintro e w2 ⟨rfl, rfl⟩
    go_wp2_with fail
    refine (l1In_b false j 0 ((m : Int) - 1) _ HJ.out).mono ?_
    rintro e w2 ⟨rfl, rfl⟩
    go_wp2
    go_ret
    exact ⟨rfl, u1⟩
  have HJ : Hid ((decide (0 ≤ j) && decide (j ≤ (m : Int) - 1)) = true) := Lib.hid (by have := inB_true.1 hj; rw [Bool.and_eq_true]; simp only [decide_eq_true_eq]; omega)
  have hi' := inB_true.1 hi
  have hj' := inB_true.1 hj
  obtain ⟨a, rfl⟩ : ∃ k : Nat, i = k := ⟨i.toNat, by omega⟩
  obtain ⟨c, rfl⟩ : ∃ k : Nat, j = k := ⟨j.toNat, by omega⟩
  have han : a < x.length := by omega
  have hcm : c < m := by omega
  obtain ⟨b5, o5, ar, cr, rfl, hc5, r1, r2, r3⟩ := GP.out.at_ (k := a) (by rw [HRP.out.len]; exact han)
  obtain ⟨b6, o6, rfl, hx6⟩ := r3 c (by rw [HRP.out.row a han]; exact hcm)
  rw [HRP.out.row a han] at hc5 r1
  have q6 : ix (rowAt p a) c = elOf p a c := rfl
  rw [q6] at hx6
  clear q6 r3
  have hB : hidB x p (a : Int) (c : Int) = decide (elOf p a c = 1) := by simp [hidB, HPB.out, hi, HM.out, hj]
  rw [hB]; clear hB
  have hpl : p.length = x.length := HRP.out.len
  rw [hpl]
  rw [hpl] at p1 H2
  clear hpl hi hj hi' hj'
  by_cases h1 : elOf p a c = 1
  · have hq : (elOf p a c == 1) = true := by simp [h1]
    have hd : decide (elOf p a c = 1) = true := by simp [h1]
    rw [hd]; clear hd h1
    go_enter Try.func33, Try.ntmps33
    go_wp2_with fail
    refine (qPattern_b true _ _ x p _ HP.out H1.out H2.out).mono ?_
    rintro e w1 ⟨rfl, d1⟩
    have u1 := Drew.ext d1
    have z0 := Ext.cell u1 hc0
    have z5 := Ext.cell u1 hc5
    have z6 := Ext.cell u1 hx6
    go_wp2_with fail
    refine (l1In_b true a 0 ((x.length : Int) - 1) _ HI.out).mono ?_
    rintro e w2 ⟨rfl, rfl⟩
    go_wp2_with fail
    refine (l1In_b true c 0 ((m : Int) - 1) _ HJ.out).mono ?_
    rintro e w2 ⟨rfl, rfl⟩
    go_wp2
    go_ret
    exact ⟨rfl, u1⟩
  · have hq : (elOf p a c == 1) = false := by simp [h1]
    have hd : decide (elOf p a c = 1) = false := by simp [h1]
    rw [hd]; clear hd h1
    go_enter Try.func33, Try.ntmps33
    go_wp2_with fail
    refine (qPattern_b true _ _ x p _ HP.out H1.out H2.out).mono ?_
    rintro e w1 ⟨rfl, d1⟩
    have u1 := Drew.ext d1
    have z0 := Ext.cell u1 hc0
    have z5 := Ext.cell u1 hc5
    have z6 := Ext.cell u1 hx6
    go_wp2_with fail
    refine (l1In_b true a 0 ((x.length : Int) - 1) _ HI.out).mono ?_
    rintro e w2 ⟨rfl, rfl⟩
    go_wp2_with fail
    refine (l1In_b true c 0 ((m : Int) - 1) _ HJ.out).mono ?_
    rintro e w2 ⟨rfl, rfl⟩
    go_wp2
    go_ret
    exact ⟨rfl, u1⟩
set_option maxRecDepth 100000 in
set_option maxHeartbeats 1600000 in
theorem isHidden_b (b : Bool) (x : List (List Int)) (v2 : Value) (p : List (List Int)) (i j : Int) (w : World) (hp : pubB x p = true) (hb : hidB x p i j = b) (h2 : Grid w v2 p) :
    Calls Try.prog 39 #[v2, .int .i64 i, .int .i64 j] w fun e w' => e = .returned (.bool b) ∧ Ext w w' := by
  subst hb
  obtain ⟨ap, cp, rfl, p1, p2, p3⟩ := h2
  have GP := Lib.hid p3; clear p3
  have HRP := Lib.hid (pat_rc hp)
  obtain ⟨m, hm⟩ : ∃ m, (rowAt x 0).length = m := ⟨_, rfl⟩
  rw [hm] at HRP
  obtain ⟨n, hn⟩ : ∃ n, x.length = n := ⟨_, rfl⟩
  rw [hn] at HRP
  have hpl : p.length = n := HRP.out.len
  have hB : hidB x p i j = (inB n i && (inB m j && decide (elOf p i.toNat j.toNat = 1))) := by simp [hidB, hp, hn, hm]
  rw [hB, hpl]
  rw [hpl] at p1
  clear hB hpl hp hm hn
  by_cases n1 : 0 ≤ i
  case neg =>
    have hI : inB n i = false := inB_false.2 (by omega)
    rw [hI, Bool.false_and]
    clear hI
    go_enter Try.func39, Try.ntmps39
    go_wp2
    go_ret
    exact ⟨rfl, Ext.refl _⟩
  by_cases n2 : i < n
  case neg =>
    have hI : inB n i = false := inB_false.2 (by omega)
    rw [hI, Bool.false_and]
    clear hI
    go_enter Try.func39, Try.ntmps39
    go_wp2
    go_ret
    exact ⟨rfl, Ext.refl _⟩
  have hI : inB n i = true := inB_true.2 ⟨n1, n2⟩
  rw [hI, Bool.true_and]
  clear hI
  obtain ⟨a, rfl⟩ : ∃ k : Nat, i = k := ⟨i.toNat, by omega⟩
  have han : a < n := by omega
  obtain ⟨b5, o5, ar, cr, rfl, hc5, r1, r2, r3⟩ := GP.out.at_ (k := a) (by rw [HRP.out.len]; exact han)
  have R3 := Lib.hid r3; clear r3
  have hrl := HRP.out.row a han
  rw [hrl] at hc5 r1
  have HRL := Lib.hid hrl; clear hrl n1 n2
  by_cases n3 : 0 ≤ j
  case neg =>
    have hI : inB m j = false := inB_false.2 (by omega)
    rw [hI, Bool.false_and]
    clear hI
    go_enter Try.func39, Try.ntmps39
    go_wp2
    go_ret
    exact ⟨rfl, Ext.refl _⟩
  by_cases n4 : j < m
  case neg =>
    have hI : inB m j = false := inB_false.2 (by omega)
    rw [hI, Bool.false_and]
    clear hI
    go_enter Try.func39, Try.ntmps39
    go_wp2
    go_ret
    exact ⟨rfl, Ext.refl _⟩
  have hI : inB m j = true := inB_true.2 ⟨n3, n4⟩
  rw [hI, Bool.true_and]
  clear hI
  obtain ⟨c, rfl⟩ : ∃ k : Nat, j = k := ⟨j.toNat, by omega⟩
  have hcm : c < m := by omega
  obtain ⟨b6, o6, rfl, hx6⟩ := R3.out c (by rw [HRL.out]; exact hcm)
  have q6 : ix (rowAt p a) c = elOf p a c := rfl
  rw [q6] at hx6
  clear q6 n3 n4
  simp only [Int.toNat_natCast]
  by_cases h1 : elOf p a c = 1
  · have hq : (elOf p a c == 1) = true := by simp [h1]
    have hd : decide (elOf p a c = 1) = true := by simp [h1]
    rw [hd]; clear hd h1
    go_enter Try.func39, Try.ntmps39
    go_wp2
    go_ret
    exact ⟨rfl, Ext.refl _⟩
  · have hq : (elOf p a c == 1) = false := by simp [h1]
    have hd : decide (elOf p a c = 1) = false := by simp [h1]
    rw [hd]; clear hd h1
    go_enter Try.func39, Try.ntmps39
    go_wp2
    go_ret
    exact ⟨rfl, Ext.refl _⟩
end Go.Proofs.Ytginndoggpfadaa
