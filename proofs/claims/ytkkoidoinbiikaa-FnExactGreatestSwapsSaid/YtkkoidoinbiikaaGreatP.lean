/- GreatestSwaps: the greatest number of records of one area in a group, counted in two ways. Plain. -/
import Derived.Test.YtkkoidoinbiikaaGrp
namespace Go.Proofs.Ytkkoidoinbiikaa
open Go.RowKit

def arAt (l : List Pe) (G : List Int) (j : Nat) : Int := (peAt l (ix G j).toNat).area
/-- how many of the first n of a group have an area -/
def arCnt (l : List Pe) (G : List Int) (a : Int) : Nat → Nat
  | 0 => 0
  | n + 1 => if arAt l G n = a then arCnt l G a n + 1 else arCnt l G a n
theorem arCnt_le (l : List Pe) (G : List Int) (a : Int) : ∀ n, arCnt l G a n ≤ n
  | 0 => Nat.le_refl 0
  | n + 1 => by have := arCnt_le l G a n; unfold arCnt; split <;> omega
/-- the program's: the greatest count met so far -/
def runMost (l : List Pe) (G : List Int) : Nat → Nat
  | 0 => 0
  | n + 1 => max (runMost l G n) (arCnt l G (arAt l G n) (n + 1))
/-- the spec's: the greatest count within N, over the first n -/
def allMost (l : List Pe) (G : List Int) (N : Nat) : Nat → Nat
  | 0 => 0
  | n + 1 => max (allMost l G N n) (arCnt l G (arAt l G n) N)
theorem allMost_ge (l : List Pe) (G : List Int) (N : Nat) : ∀ {n j : Nat}, j < n → arCnt l G (arAt l G j) N ≤ allMost l G N n
  | 0, _, h => by omega
  | n + 1, j, h => by
    unfold allMost
    by_cases e : j = n
    · subst e; exact Nat.le_max_right _ _
    · exact Nat.le_trans (allMost_ge l G N (n := n) (by omega)) (Nat.le_max_left _ _)
theorem allMost_le (l : List Pe) (G : List Int) (N : Nat) {v : Nat} : ∀ {n : Nat}, (∀ j, j < n → arCnt l G (arAt l G j) N ≤ v) → allMost l G N n ≤ v
  | 0, _ => Nat.zero_le _
  | n + 1, h => by
    unfold allMost
    exact Nat.max_le.2 ⟨allMost_le l G N (fun j hj => h j (by omega)), h n (by omega)⟩
theorem runMost_eq (l : List Pe) (G : List Int) : ∀ n, runMost l G n = allMost l G n n
  | 0 => rfl
  | n + 1 => by
    have ih := runMost_eq l G n
    apply Nat.le_antisymm
    · unfold runMost
      refine Nat.max_le.2 ⟨?_, allMost_ge l G (n + 1) (by omega)⟩
      rw [ih]
      refine allMost_le l G n (fun j hj => ?_)
      refine Nat.le_trans ?_ (allMost_ge l G (n + 1) (n := n + 1) (j := j) (by omega))
      have e9 : arCnt l G (arAt l G j) (n + 1) = if arAt l G n = arAt l G j then arCnt l G (arAt l G j) n + 1 else arCnt l G (arAt l G j) n := rfl
      rw [e9]
      split <;> omega
    · refine allMost_le l G (n + 1) (fun j hj => ?_)
      unfold runMost
      by_cases e : arAt l G n = arAt l G j
      · rw [← e]; exact Nat.le_max_right _ _
      · have hjn : j ≠ n := fun x => e (by rw [x])
        have h1 : arCnt l G (arAt l G j) (n + 1) = arCnt l G (arAt l G j) n := by rw [arCnt, if_neg e]
        rw [h1, ih]
        exact Nat.le_trans (allMost_ge l G n (by omega)) (Nat.le_max_left _ _)
/-- what one group gives -/
def gSw (l : List Pe) (G : List Int) : Nat := min (G.length / 2) (G.length - runMost l G G.length)
def gSum (l : List Pe) (gs : List (List Int)) : Nat → Nat
  | 0 => 0
  | n + 1 => gSum l gs n + gSw l (rowAt gs n)
end Go.Proofs.Ytkkoidoinbiikaa
