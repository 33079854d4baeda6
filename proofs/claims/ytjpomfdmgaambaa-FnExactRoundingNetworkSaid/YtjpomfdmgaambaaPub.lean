/- ThresholdCells, the program's; PublishedTable and JoinPatterns, the spec's and the program's. -/
import Derived.Test.YtjpomfdmgaambaaMix
namespace Go.Proofs.Ytjpomfdmgaambaa
open Go.RowKit

def pubEl (p : List (List Int)) (i j : Nat) (n : Int) : Int := if ix (rowAt p i) j = 1 then -1 else n
def pub (p x : List (List Int)) : List (List Int) := mapG (pubEl p) x
def pubB (x p : List (List Int)) : Bool := gridB 8 1000 x && patB x p
def pubV (x p : List (List Int)) : List (List Int) := if pubB x p = true then pub p x else []
def joinEl (b : List (List Int)) (i j : Nat) (n : Int) : Int := imax n (ix (rowAt b i) j)
def join (b a : List (List Int)) : List (List Int) := mapG (joinEl b) a
def joinB (a b : List (List Int)) : Bool := gridB 8 1 a && patB a b
def joinV (a b : List (List Int)) : List (List Int) := if joinB a b = true then join b a else []
/-- the two grids' shapes -/
theorem pubB_shape {x p : List (List Int)} (h : pubB x p = true) : gridB 8 1000 x = true ∧ p.length = x.length ∧ x.length ≤ 8 ∧ 1 ≤ x.length ∧ ∀ k, k < x.length → (rowAt x k).length ≤ 8 ∧ 1 ≤ (rowAt x k).length ∧ (rowAt p k).length = (rowAt x k).length := by
  simp only [pubB, patB, Bool.and_eq_true, decide_eq_true_eq] at h
  obtain ⟨h1, h2, h3, h4⟩ := h
  have g1 := gridB_true.1 h1
  have g2 := gridB_true.1 h2
  refine ⟨h1, h3, g1.2.1, g1.1, fun k hk => ?_⟩
  have a1 := (g1.2.2.2.2 k hk).1
  have a2 := (g2.2.2.2.2 k (by omega)).1
  omega
theorem joinB_shape {x p : List (List Int)} (h : joinB x p = true) : gridB 8 1 x = true ∧ gridB 8 1 p = true ∧ p.length = x.length ∧ x.length ≤ 8 ∧ 1 ≤ x.length ∧ ∀ k, k < x.length → (rowAt x k).length ≤ 8 ∧ 1 ≤ (rowAt x k).length ∧ (rowAt p k).length = (rowAt x k).length := by
  simp only [joinB, patB, Bool.and_eq_true, decide_eq_true_eq] at h
  obtain ⟨h1, h2, h3, h4⟩ := h
  have g1 := gridB_true.1 h1
  have g2 := gridB_true.1 h2
  refine ⟨h1, h2, h3, g1.2.1, g1.1, fun k hk => ?_⟩
  have a1 := (g1.2.2.2.2 k hk).1
  have a2 := (g2.2.2.2.2 k (by omega)).1
  omega




end Go.Proofs.Ytjpomfdmgaambaa
