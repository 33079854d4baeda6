/- IsTransport, the spec's and the program's. -/
import Derived.Test.YtodnkahnbidgaaaTr
import Derived.Test.YtodnkahnbidgaaaGrid
import Derived.Test.YtodnkahnbidgaaaApp
namespace Go.Proofs.Ytodnkahnbidgaaa
open Go.RowKit

theorem Drew.drew' {w w' : World} (h : Drew w w') : Drew w w'.drew := h.drewN 1
def cellOk (a b : Int) : Prop := 0 ≤ a ∧ a ≤ b ∧ b ≤ 100000
def sumsB (xs : List Int) : Bool := (decide ((1 : Int) ≤ (xs.length : Int)) && decide ((xs.length : Int) ≤ 8)) && allIn 0 100000 xs
/-- a valid network -/
def TrOk (T : Tr) : Prop := sumsB T.rows = true ∧ sumsB T.cols = true ∧ shapeB T.rows.length T.cols.length T.lo = true ∧ shapeB T.rows.length T.cols.length T.hi = true ∧
  ∀ i, i < T.lo.length → ∀ j, j < (rowAt T.lo i).length → cellOk (ix (rowAt T.lo i) j) (ix (rowAt T.hi i) j)
open Classical in
noncomputable def trB (T : Tr) : Bool := decide (TrOk T)
theorem trB_true {T : Tr} : trB T = true ↔ TrOk T := by simp [trB]
theorem trB_false {T : Tr} (h : ¬ TrOk T) : trB T = false := by simp [trB, h]



end Go.Proofs.Ytodnkahnbidgaaa
