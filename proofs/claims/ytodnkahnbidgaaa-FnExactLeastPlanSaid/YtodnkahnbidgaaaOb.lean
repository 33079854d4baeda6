/- OriginalBounds, the spec's and the program's. -/
import Derived.Test.YtodnkahnbidgaaaMat
import Derived.Test.YtodnkahnbidgaaaMix
import Derived.Deep.RegionHeld3
import Derived.OwnWalk
namespace Go.Proofs.Ytodnkahnbidgaaa
open Go.RowKit


def obLo (base : Int) (_ _ : Nat) (n : Int) : Int := imax 0 (n - base + 1)
def obHi (base : Int) (_ _ : Nat) (n : Int) : Int := n + base - 1
def MultUpTo (base : Int) (y : List (List Int)) (k l : Nat) : Prop := ∀ i j, i < y.length → j < (rowAt y i).length → (i < k ∨ (i = k ∧ j < l)) → ix (rowAt y i) j % base = 0
open Classical in
noncomputable def obB (y : List (List Int)) (base : Int) : Bool := gridB 7 10000 y && (decide (2 ≤ base) && decide (base ≤ 100)) && decide (MultUpTo base y y.length 0)
noncomputable def obL (y : List (List Int)) (base : Int) : List (List Int) := if obB y base = true then mapG (obLo base) y else []
noncomputable def obH (y : List (List Int)) (base : Int) : List (List Int) := if obB y base = true then mapG (obHi base) y else []
theorem obB_not {y : List (List Int)} {base : Int} {k l : Nat} (hk : k < y.length) (hl : l < (rowAt y k).length) (h : ix (rowAt y k) l % base ≠ 0) : obB y base = false := by
  have : ¬ MultUpTo base y y.length 0 := fun hh => h (hh k l hk hl (.inl hk))
  simp [obB, this]
theorem obB_yes {y : List (List Int)} {base : Int} {k : Nat} (h1 : gridB 7 10000 y = true) (h2 : (decide (2 ≤ base) && decide (base ≤ 100)) = true) (h : MultUpTo base y k 0) (hk : y.length ≤ k) : obB y base = true := by
  have : MultUpTo base y y.length 0 := fun i j hi hj _ => h i j hi hj (.inl (by omega))
  unfold obB; rw [h1, h2]; simp [this]
theorem mult_step {base : Int} {y : List (List Int)} {k l : Nat} (h : MultUpTo base y k l) (hn : ix (rowAt y k) l % base = 0) : MultUpTo base y k (l + 1) := fun i j hi hj hh => by
  by_cases e : i = k ∧ j = l
  · obtain ⟨rfl, rfl⟩ := e; exact hn
  · exact h i j hi hj (by omega)
theorem mult_next {base : Int} {y : List (List Int)} {k l : Nat} (h : MultUpTo base y k l) (hl : (rowAt y k).length ≤ l) : MultUpTo base y (k + 1) 0 := fun i j hi hj hh => by
  by_cases e : i = k
  · subst e; exact h i j hi hj (by omega)
  · exact h i j hi hj (by omega)
/-- what a call that hands back two fresh grids leaves -/
def RetGrids (mk : Value → Value → Value) (w : World) (xs ys : List (List Int)) (e : Ending) (w' : World) : Prop :=
  ∃ v1 r1 v2 r2 mid, e = .returned (mk v1 v2) ∧ w.heap.size ≤ mid ∧ mid ≤ w'.heap.size ∧ OwnG w.heap.size mid w' v1 r1 xs ∧ OwnG mid w'.heap.size w' v2 r2 ys ∧ Ext w w'


end Go.Proofs.Ytodnkahnbidgaaa
