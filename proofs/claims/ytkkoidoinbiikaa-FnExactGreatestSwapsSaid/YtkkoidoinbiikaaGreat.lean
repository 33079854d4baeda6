/- GreatestSwaps, the program's. -/
import Derived.Test.YtkkoidoinbiikaaGreatP
import Derived.Test.YtkkoidoinbiikaaGroups
namespace Go.Proofs.Ytkkoidoinbiikaa
open Go.RowKit

/-- an array of 30 ints: how many of the first n of a group have each area -/
def Cnts (w : World) (b : Nat) (l : List Pe) (G : List Int) (n : Nat) : Prop := ∃ vs : Array Value, Box w b 79 vs ∧ vs.size = 30 ∧ ∀ a : Nat, a < 30 → vs[a]? = some (.int .i64 (arCnt l G (a : Int) n))
namespace Cnts
variable {w w' : World} {b n : Nat} {l : List Pe} {G : List Int}
theorem ext (h : Cnts w b l G n) (u : Ext w w') : Cnts w' b l G n := by
  obtain ⟨vs, h1, h2, h3⟩ := h
  exact ⟨vs, h1.ext u, h2, h3⟩
theorem cell (h : Cnts w b l G n) {a : Nat} (ha : a < 30) : w.cell? ⟨b, a, none⟩ = some (.int .i64 (arCnt l G (a : Int) n)) := by
  obtain ⟨vs, h1, h2, h3⟩ := h
  have h4 := h3 a ha
  have h5 : w.heap[b]? = some (.cells vs 79 (0, 0)) := h1
  simp [World.cell?, h5, h4]
theorem free (h : Cnts w b l G n) (a : Nat) : w.frozen? ⟨b, a, none⟩ = false := by
  obtain ⟨vs, h1, _⟩ := h
  exact h1.free a
theorem step (h : Cnts w b l G n) {a : Nat} (ha : a < 30) (he : arAt l G n = (a : Int)) : Cnts (w.setCell ⟨b, a, none⟩ (.int .i64 ((arCnt l G (a : Int) n : Int) + 1))) b l G (n + 1) := by
  obtain ⟨vs, h1, h2, h3⟩ := h
  refine ⟨_, h1.set a _, by simpa using h2, fun j hj => ?_⟩
  rw [Array.getElem?_setIfInBounds, arCnt, he]
  by_cases e : a = j
  · subst e; simp [h2, ha]
  · have e2 : ¬ (a : Int) = (j : Int) := by omega
    rw [if_neg e, if_neg e2]; exact h3 j hj
theorem new (w : World) (l : List Pe) (G : List Int) : Cnts (w.alloc (.cells (Array.replicate 30 (.int .i64 0)) 79)) w.heap.size l G 0 :=
  ⟨_, Box.new w 79 (Array.replicate 30 (.int .i64 0)) rfl, by simp, fun a ha => by simp [arCnt, ha]⟩
end Cnts
noncomputable def gsB (s : List Vr) (l : List Pe) (vars : List Int) : Bool := inB s l vars
noncomputable def gsV (s : List Vr) (l : List Pe) (vars : List Int) : Int := if inB s l vars = true then (gSum l (grps s l vars (keysS s l vars)) (grps s l vars (keysS s l vars)).length : Int) else 0
end Go.Proofs.Ytkkoidoinbiikaa
