/- An array of 40 bools that tells which indices were met. -/
import Derived.Test.YtkkoidoinbiikaaPlans
namespace Go.Proofs.Ytkkoidoinbiikaa
open Go.RowKit

/-- an array of 40 bools: which indices are in xs -/
def Used (w : World) (b : Nat) (xs : List Int) : Prop := ∃ vs : Array Value, Box w b 94 vs ∧ vs.size = 40 ∧ ∀ i : Nat, i < 40 → vs[i]? = some (.bool (hasI xs (i : Int)))
namespace Used
variable {w w' : World} {b : Nat} {xs : List Int}
theorem ext (h : Used w b xs) (u : Ext w w') : Used w' b xs := by
  obtain ⟨vs, h1, h2, h3⟩ := h
  exact ⟨vs, h1.ext u, h2, h3⟩
theorem upd {S : Nat → Prop} (h : Used w b xs) (u : Upd S w w') (hs : ¬ S b) : Used w' b xs := by
  obtain ⟨vs, h1, h2, h3⟩ := h
  exact ⟨vs, h1.upd u hs, h2, h3⟩
theorem cell (h : Used w b xs) {i : Nat} (hi : i < 40) : w.cell? ⟨b, i, none⟩ = some (.bool (hasI xs (i : Int))) := by
  obtain ⟨vs, h1, h2, h3⟩ := h
  have h4 := h3 i hi
  have h5 : w.heap[b]? = some (.cells vs 94 (0, 0)) := h1
  simp [World.cell?, h5, h4]
theorem free (h : Used w b xs) (i : Nat) : w.frozen? ⟨b, i, none⟩ = false := by
  obtain ⟨vs, h1, _⟩ := h
  exact h1.free i
theorem set (h : Used w b xs) {i : Nat} (hi : i < 40) : Used (w.setCell ⟨b, i, none⟩ (.bool true)) b (xs ++ [(i : Int)]) := by
  obtain ⟨vs, h1, h2, h3⟩ := h
  refine ⟨_, h1.set i _, by simpa using h2, fun j hj => ?_⟩
  rw [Array.getElem?_setIfInBounds, hasI_append]
  by_cases e : i = j
  · subst e; simp [hasI, h2, hi]
  · rw [if_neg e, h3 j hj]
    have : hasI [(i : Int)] (j : Int) = false := by simp [hasI]; omega
    rw [this, Bool.or_false]
theorem again (h : Used w b xs) {n : Int} (hn : hasI xs n = true) : Used w b (xs ++ [n]) := by
  obtain ⟨vs, h1, h2, h3⟩ := h
  refine ⟨vs, h1, h2, fun i hi => ?_⟩
  rw [h3 i hi, hasI_append]
  by_cases e : n = (i : Int)
  · subst e; rw [hn]; rfl
  · have : hasI [n] (i : Int) = false := by simp [hasI, e]
    rw [this, Bool.or_false]
theorem drew (h : Used w b xs) : Used w.drew b xs := h
theorem lt (h : Used w b xs) : b < w.heap.size := by
  obtain ⟨vs, h1, _⟩ := h
  exact h1.lt
theorem new (w : World) : Used (w.alloc (.cells (Array.replicate 40 (.bool false)) 94)) w.heap.size [] :=
  ⟨_, Box.new w 94 (Array.replicate 40 (.bool false)) rfl, by simp, fun i hi => by simp [hasI, hi]⟩
end Used
end Go.Proofs.Ytkkoidoinbiikaa
