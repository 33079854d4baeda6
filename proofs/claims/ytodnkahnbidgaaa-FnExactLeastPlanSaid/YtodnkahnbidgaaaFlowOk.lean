/- IsFlow, the spec's and the program's. -/
import Derived.Test.YtodnkahnbidgaaaTrOk
import Derived.Test.YtodnkahnbidgaaaSums
import Derived.Test.YtodnkahnbidgaaaEqual
namespace Go.Proofs.Ytodnkahnbidgaaa
open Go.RowKit

theorem TrOk.dims {T : Tr} (h : TrOk T) : 1 ≤ T.rows.length ∧ T.rows.length ≤ 8 ∧ 1 ≤ T.cols.length ∧ T.cols.length ≤ 8 ∧ T.lo.length = T.rows.length ∧ T.hi.length = T.rows.length := by
  have h1 := h.1
  have h2 := h.2.1
  have h3 := (shapeB_true.1 h.2.2.1).1
  have h4 := (shapeB_true.1 h.2.2.2.1).1
  simp only [sumsB, Bool.and_eq_true, decide_eq_true_eq] at h1 h2
  omega
theorem TrOk.rowlen {T : Tr} (h : TrOk T) {i : Nat} (hi : i < T.rows.length) : (rowAt T.lo i).length = T.cols.length ∧ (rowAt T.hi i).length = T.cols.length := by
  have d := h.dims
  have h3 := (shapeB_true.1 h.2.2.1).2 i (by omega)
  have h4 := (shapeB_true.1 h.2.2.2.1).2 i (by omega)
  omega
theorem TrOk.cell {T : Tr} (h : TrOk T) {i j : Nat} (hi : i < T.rows.length) (hj : j < T.cols.length) : cellOk (ix (rowAt T.lo i) j) (ix (rowAt T.hi i) j) := by
  have d := h.dims
  exact h.2.2.2.2 i (by omega) j (by have := (h.rowlen hi).1; omega)

def fitsP (T : Tr) (x : List (List Int)) (i j : Nat) : Prop := ix (rowAt T.lo i) j ≤ ix (rowAt x i) j ∧ ix (rowAt x i) j ≤ ix (rowAt T.hi i) j
/-- a flow -/
def FlowOk (T : Tr) (x : List (List Int)) : Prop := shapeB T.rows.length T.cols.length x = true ∧ (∀ i, i < x.length → ∀ j, j < (rowAt x i).length → fitsP T x i j) ∧ rowS x = T.rows ∧ colS x T.cols.length = T.cols
open Classical in
noncomputable def flowB (T : Tr) (x : List (List Int)) : Bool := decide (FlowOk T x)
theorem flowB_true {T : Tr} {x : List (List Int)} : flowB T x = true ↔ FlowOk T x := by simp [flowB]
theorem flowB_false {T : Tr} {x : List (List Int)} (h : ¬ FlowOk T x) : flowB T x = false := by simp [flowB, h]
theorem fits_range {T : Tr} {x : List (List Int)} (h : TrOk T) {i : Nat} (hi : i < T.rows.length) (hl : (rowAt x i).length = T.cols.length) (hf : ∀ j, j < (rowAt x i).length → fitsP T x i j) :
    ∀ j, j < (rowAt x i).length → -1000000 ≤ ix (rowAt x i) j ∧ ix (rowAt x i) j ≤ 1000000 := by
  intro j hj
  have h1 := h.cell hi (j := j) (by omega)
  have h2 := hf j hj
  unfold cellOk at h1
  unfold fitsP at h2
  omega
theorem fits_tame {T : Tr} {x : List (List Int)} (h : TrOk T) (hs : shapeB T.rows.length T.cols.length x = true) (hf : ∀ i, i < x.length → ∀ j, j < (rowAt x i).length → fitsP T x i j) : Tame x := by
  have d := h.dims
  have s1 := shapeB_true.1 hs
  refine ⟨by omega, fun i hi => ?_⟩
  have hl := s1.2 i hi
  exact ⟨by omega, fits_range h (by omega) (by omega) (hf i hi)⟩

end Go.Proofs.Ytodnkahnbidgaaa
