/- The laws' helpers over one record, in the shape that structs have. -/
import Derived.Test.YtkkoidoinbiikaaInp
namespace Go.Proofs.Ytkkoidoinbiikaa
open Go.RowKit

def PeWf (r : Pe) : Prop := WfPe r
def PeO (lo hi : Nat) (w : World) (v : Value) (r : Pe) : Prop := ∃ rv, v = .agg #[.int .i64 r.area, .int .i64 r.house, rv] ∧ Own lo hi w rv r.vals
theorem PeO.read {lo hi : Nat} {w : World} {v : Value} {r : Pe} (h : PeO lo hi w v r) : PeR w v r := by
  obtain ⟨rv, rfl, h⟩ := h
  exact ⟨rv, rfl, h.ints⟩
theorem PeO.ext {lo hi : Nat} {w w' : World} {v : Value} {r : Pe} (h : PeO lo hi w v r) (u : Ext w w') : PeO lo hi w' v r := by
  obtain ⟨rv, rfl, h⟩ := h
  exact ⟨rv, rfl, h.ext u⟩
theorem szPe_c (v : Value) (r : Pe) (left : Int) (w : World) (h : PeR w v r) (h0 : 0 ≤ left ∧ left ≤ 1048576) :
    Calls Try.prog 30 #[v, .int .i64 left] w fun e w' => ∃ t, e = .returned (.int .i64 t) ∧ (t < 0 ∨ (0 ≤ t ∧ t ≤ left ∧ r.vals.length ≤ 1048576)) ∧ Ext w w' := by
  obtain ⟨a, c, rfl, hl⟩ := h.form
  refine (szRecord_c _ _ left a _ c w hl h0).mono ?_
  rintro e w' ⟨rfl, u⟩
  refine ⟨_, rfl, ?_, u⟩
  rcases szI_cases left r.vals.length with ⟨e, e2⟩ | ⟨e, e2⟩ <;> omega
theorem toPe_c (v : Value) (r : Pe) (w : World) (h : PeR w v r) (hl : r.vals.length ≤ 1048576) :
    Calls Try.prog 32 #[v] w fun e w' => ∃ v', e = .returned v' ∧ PeO w.heap.size w'.heap.size w' v' r ∧ Ext w w' := by
  refine (toRecord_c v r w h hl).mono ?_
  rintro e w' ⟨rv, rfl, o, u⟩
  exact ⟨_, rfl, ⟨rv, rfl, o⟩, u⟩
theorem eqPe_t (v1 v2 : Value) (r : Pe) (w : World) (h1 : PeR w v1 r) (h2 : PeR w v2 r) :
    Calls Try.prog 34 #[v1, v2] w fun e w' => e = .returned (.bool true) ∧ Ext w w' := eqRecord_t v1 v2 r w h1 h2
end Go.Proofs.Ytkkoidoinbiikaa
