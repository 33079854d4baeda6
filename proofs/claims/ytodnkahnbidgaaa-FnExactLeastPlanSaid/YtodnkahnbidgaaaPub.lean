/- ThresholdCells, the program's; PublishedTable and JoinPatterns, the spec's and the program's. -/
import Derived.Test.YtodnkahnbidgaaaMix
namespace Go.Proofs.Ytodnkahnbidgaaa
open Go.RowKit

def pubEl (p : List (List Int)) (i j : Nat) (n : Int) : Int := if ix (rowAt p i) j = 1 then -1 else n
def pub (p x : List (List Int)) : List (List Int) := mapG (pubEl p) x
def pubB (x p : List (List Int)) : Bool := gridB 8 1000 x && patB x p
def pubV (x p : List (List Int)) : List (List Int) := if pubB x p = true then pub p x else []
def joinEl (b : List (List Int)) (i j : Nat) (n : Int) : Int := imax n (ix (rowAt b i) j)
def join (b a : List (List Int)) : List (List Int) := mapG (joinEl b) a
def joinB (a b : List (List Int)) : Bool := gridB 8 1 a && patB a b
def joinV (a b : List (List Int)) : List (List Int) := if joinB a b = true then join b a else []
/-- the two grids' shapes -/
theorem pubB_shape {x p : List (List Int)} (h : pubB x p = true) : gridB 8 1000 x = true ∧ p.length = x.length ∧ x.length ≤ 8 ∧ 1 ≤ x.length ∧ ∀ k, k < x.length → (rowAt x k).length ≤ 8 ∧ 1 ≤ (rowAt x k).length ∧ (rowAt p k).length = (rowAt x k).length := by
  simp only [pubB, patB, Bool.and_eq_true, decide_eq_true_eq] at h
  obtain ⟨h1, h2, h3, h4⟩ := h
  have g1 := gridB_true.1 h1
  have g2 := gridB_true.1 h2
  refine ⟨h1, h3, g1.2.1, g1.1, fun k hk => ?_⟩
  have a1 := (g1.2.2.2.2 k hk).1
  have a2 := (g2.2.2.2.2 k (by omega)).1
  omega
theorem joinB_shape {x p : List (List Int)} (h : joinB x p = true) : gridB 8 1 x = true ∧ gridB 8 1 p = true ∧ p.length = x.length ∧ x.length ≤ 8 ∧ 1 ≤ x.length ∧ ∀ k, k < x.length → (rowAt x k).length ≤ 8 ∧ 1 ≤ (rowAt x k).length ∧ (rowAt p k).length = (rowAt x k).length := by
  simp only [joinB, patB, Bool.and_eq_true, decide_eq_true_eq] at h
  obtain ⟨h1, h2, h3, h4⟩ := h
  have g1 := gridB_true.1 h1
  have g2 := gridB_true.1 h2
  refine ⟨h1, h2, h3, g1.2.1, g1.1, fun k hk => ?_⟩
  have a1 := (g1.2.2.2.2 k hk).1
  have a2 := (g2.2.2.2.2 k (by omega)).1
  omega


theorem areSuppressed_b (b : Bool) (v1 v2 : Value) (x p : List (List Int)) (w : World) (hb : pubB x p = b) (h1 : Grid w v1 x) (h2 : Grid w v2 p) :
    Calls Try.prog 27 #[v1, v2] w fun e w' => e = .returned (.bool b) ∧ w' = w := by
  have H1 := Lib.hid h1; clear h1
  have H2 := Lib.hid h2; clear h2
  cases hx : gridB 8 1000 x
  · simp only [pubB, hx, Bool.false_and] at hb
    subst hb
    have HX := Lib.hid hx; clear hx
    go_enter Try.func27, Try.ntmps27
    go_wp2_with fail
    refine (implIsTwoWay_b false _ x _ HX.out H1.out).mono ?_
    rintro e w' ⟨rfl, rfl⟩
    go_wp2
    go_ret
    exact ⟨rfl, rfl⟩
  · simp only [pubB, hx, Bool.true_and] at hb
    have HX := Lib.hid hx; clear hx
    have HB := Lib.hid hb; clear hb
    go_enter Try.func27, Try.ntmps27
    go_wp2_with fail
    refine (implIsTwoWay_b true _ x _ HX.out H1.out).mono ?_
    rintro e w' ⟨rfl, rfl⟩
    go_wp2_with fail
    refine (isPattern_b b _ _ x p _ HB.out HX.out H1.out H2.out).mono ?_
    rintro e w' ⟨rfl, rfl⟩
    go_wp2
    go_ret
    exact ⟨rfl, rfl⟩


end Go.Proofs.Ytodnkahnbidgaaa
