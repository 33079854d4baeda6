/- The flow with what is left, the program's: restore. -/
import Derived.Test.YtginndoggpfadaaResid
import Derived.Test.YtginndoggpfadaaGrow
namespace Go.Proofs.Ytginndoggpfadaa
open Go.RowKit
open Fm

/-- a matrix of n rows and m columns -/
structure Rc (n m : Nat) (X : List (List Int)) : Prop where
  len : X.length = n
  row : ∀ u, u < n → (rowAt X u).length = m
theorem Rc.set {n m : Nat} {R : List (List Int)} (h : Rc n m R) {u v : Nat} (x : Int) : Rc n m (R.set u ((rowAt R u).set v x)) :=
  ⟨by simp [h.len], fun k hk => by
    rw [rowAt_set]; split
    · rename_i e; obtain ⟨rfl, _⟩ := e; simp [h.row _ hk]
    · exact h.row k hk⟩
theorem Rc.el_set {n m : Nat} {R : List (List Int)} (h : Rc n m R) {u v : Nat} (hu : u < n) (hv : v < m) (x : Int) (a b : Nat) : elOf (R.set u ((rowAt R u).set v x)) a b = if a = u ∧ b = v then x else elOf R a b := by
  unfold elOf
  rw [rowAt_set]
  by_cases e : a = u
  · subst e
    rw [if_pos ⟨rfl, by rw [h.len]; exact hu⟩, ix_set]
    by_cases e2 : b = v
    · subst e2; rw [if_pos ⟨rfl, by rw [h.row _ hu]; exact hv⟩, if_pos ⟨rfl, rfl⟩]
    · rw [if_neg (fun h => e2 h.1), if_neg (fun h => e2 h.2)]
  · rw [if_neg (fun h => e h.1), if_neg (fun h => e h.1)]
theorem Within.rc {T : Tr} {x : List (List Int)} (h : Within T x) : Rc T.rows.length T.cols.length x := ⟨h.1, fun u hu => (h.2 u hu).1⟩
def restD (n : Nat) (hi x r : Nat → Nat → Int) (P : Nat → Nat → Bool) (i j : Nat) : Int := if P i j = true then hi i j - r i (n + j) else x i j

end Go.Proofs.Ytginndoggpfadaa
