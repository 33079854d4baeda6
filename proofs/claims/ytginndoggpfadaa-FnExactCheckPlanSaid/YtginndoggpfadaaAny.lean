/- A flow if there is one, the program's: anyFlow. -/
import Derived.Test.YtginndoggpfadaaFillW
import Derived.Test.YtginndoggpfadaaEqual
import Derived.Lib.SliceRun
namespace Go.Proofs.Ytginndoggpfadaa
open Go.RowKit
open Fm

theorem rows_eq_iff {T : Tr} {X : List (List Int)} (h : Rc T.rows.length T.cols.length X) : rowS X = T.rows ↔ ∀ i, i < T.rows.length → S T.cols.length (elOf X i) = ix T.rows i := by
  constructor
  · intro e i hi
    rw [← h.rowsum hi, ← ix_rowS (by rw [h.len]; exact hi), e]
  · intro e
    refine list_ext_ix (by rw [rowS_length, h.len]) (fun i hi => ?_)
    rw [rowS_length] at hi
    rw [ix_rowS hi]
    rw [h.len] at hi
    rw [h.rowsum hi, e i hi]
/-- a greatest filling that fills the rows is a flow; else there is none -/
theorem cert_flow {T : Tr} {X : List (List Int)} {A B : Nat → Bool} (h : Rc T.rows.length T.cols.length X) (hc : Cert (NetT T) (elOf X) A B) (he : T.rows.sum = T.cols.sum) :
    (rowS X = T.rows → Flow (NetT T) (elOf X)) ∧ (rowS X ≠ T.rows → ¬ ∃ x, Flow (NetT T) x) := by
  have es : S (NetT T).n (NetT T).R = S (NetT T).m (NetT T).C := by
    rw [sum_S, sum_S] at he; exact he
  refine ⟨fun e => hc.fits.flow es ?_, fun e hx => e ?_⟩
  · have := (rows_eq_iff h).1 e
    exact S_congr (fun i hi => this i hi)
  · have h1 := (hc.flow_iff es).1 hx
    have h2 := hc.fits.flow es h1
    exact (rows_eq_iff h).2 (fun i hi => h2.row i hi)
theorem no_flow_sums {T : Tr} (he : T.rows.sum ≠ T.cols.sum) : ¬ ∃ x, Flow (NetT T) x := by
  rintro ⟨x, hx⟩
  apply he
  rw [sum_S, sum_S]; exact hx.eq_sums

end Go.Proofs.Ytginndoggpfadaa
