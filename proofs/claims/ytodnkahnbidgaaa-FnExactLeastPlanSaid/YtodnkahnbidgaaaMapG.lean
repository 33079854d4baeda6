/- Grids made element by element of a grid; ThresholdCells, the spec's. -/
import Derived.Test.YtodnkahnbidgaaaGrid
import Derived.Test.YtodnkahnbidgaaaGrow
namespace Go.Proofs.Ytodnkahnbidgaaa
open Go.RowKit

def rowF (f : Nat → Nat → Int → Int) (xss : List (List Int)) (i : Nat) : List Int := (List.range (rowAt xss i).length).map fun j => f i j (ix (rowAt xss i) j)
def mapG (f : Nat → Nat → Int → Int) (xss : List (List Int)) : List (List Int) := (List.range xss.length).map (rowF f xss)
theorem rowF_length (f : Nat → Nat → Int → Int) (xss : List (List Int)) (i : Nat) : (rowF f xss i).length = (rowAt xss i).length := by simp [rowF]
theorem mapG_length (f : Nat → Nat → Int → Int) (xss : List (List Int)) : (mapG f xss).length = xss.length := by simp [mapG]
theorem ix_rowF {f : Nat → Nat → Int → Int} {xss : List (List Int)} {i j : Nat} (h : j < (rowAt xss i).length) : ix (rowF f xss i) j = f i j (ix (rowAt xss i) j) := by simp [ix, rowF, List.getD, h]
theorem rowAt_mapG {f : Nat → Nat → Int → Int} {xss : List (List Int)} {i : Nat} (h : i < xss.length) : rowAt (mapG f xss) i = rowF f xss i := by simp [rowAt, mapG, List.getD, h]
theorem rowF_take_succ {f : Nat → Nat → Int → Int} {xss : List (List Int)} {i j : Nat} (h : j < (rowAt xss i).length) : (rowF f xss i).take (j + 1) = (rowF f xss i).take j ++ [f i j (ix (rowAt xss i) j)] := by
  rw [take_succ_ix (by rw [rowF_length]; exact h), ix_rowF h]
theorem mapG_take_succ {f : Nat → Nat → Int → Int} {xss : List (List Int)} {i : Nat} (h : i < xss.length) : (mapG f xss).take (i + 1) = (mapG f xss).take i ++ [rowF f xss i] := by
  rw [take_succ_row (by rw [mapG_length]; exact h), rowAt_mapG h]

/-- positive and less than t -/
def thrEl (t : Int) (n : Int) : Int := if 0 < n ∧ n < t then 1 else 0
def thr (t : Int) (xss : List (List Int)) : List (List Int) := mapG (fun _ _ n => thrEl t n) xss
def thrB (t : Int) (xss : List (List Int)) : Bool := gridB 8 1000 xss && (decide (0 ≤ t) && decide (t ≤ 1001))
def thrV (t : Int) (xss : List (List Int)) : List (List Int) := if thrB t xss = true then thr t xss else []

end Go.Proofs.Ytodnkahnbidgaaa
