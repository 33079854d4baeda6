/- Contracts of the laws' own helpers over slices of ints and slices of such slices: copies, comparisons, marks, sizes. -/
import Derived.Test.YtmhofeljieicaaaProg
import Derived.Test.YtmhofeljieicaaaLib
namespace Go.Proofs.Ytmhofeljieicaaa
open Go.RowKit

theorem info_int : (Try.prog.info? 3).map (fun i => (i.zero, i.size, i.bytes)) = some (some (.int .i64 0), 1, 8) := by kernel_rfl
theorem info_ints : (Try.prog.info? 53).map (fun i => (i.zero, i.size, i.bytes)) = some (some (.slice none 0 0), 1, 24) := by kernel_rfl






/-- what szIntS answers -/
def szI (left : Int) (n : Nat) : Int := if left - n < 0 then -1 else left - n

theorem len_le_sum {xss : List (List Int)} {r : List Int} (h : r ∈ xss) : r.length ≤ (xss.map List.length).sum := by
  induction xss with
  | nil => simp at h
  | cons x xs ih =>
    simp only [List.map_cons, List.sum_cons]
    rcases List.mem_cons.1 h with rfl | h
    · omega
    · have := ih h; omega
def szRows : Int → List (List Int) → Int
  | l, [] => l
  | l, r :: rs => if szI l r.length < 0 then -1 else szRows (szI l r.length) rs
/-- what szIntSS answers -/
def szG (left : Int) (xss : List (List Int)) : Int := if left - xss.length < 0 then -1 else szRows (left - xss.length) xss
theorem szI_cases (left : Int) (n : Nat) : szI left n = -1 ∧ left - n < 0 ∨ szI left n = left - n ∧ 0 ≤ left - n := by
  unfold szI; split <;> omega
theorem szRows_cases (l : Int) (xss : List (List Int)) (h : 0 ≤ l) : szRows l xss = -1 ∨ 0 ≤ szRows l xss ∧ szRows l xss = l - (xss.map List.length).sum := by
  induction xss generalizing l with
  | nil => right; simp [szRows]; exact h
  | cons r rs ih =>
    simp only [szRows]
    rcases szI_cases l r.length with ⟨e, _⟩ | ⟨e, h2⟩
    · rw [e]; simp
    · rw [e, if_neg (by omega)]
      rcases ih (l - r.length) h2 with h3 | h3
      · exact .inl h3
      · refine .inr ⟨h3.1, ?_⟩
        rw [h3.2]; simp only [List.map_cons, List.sum_cons]; omega
/-- where it is not -1 all lengths are small -/
theorem szG_cases (left : Int) (xss : List (List Int)) : szG left xss = -1 ∨ 0 ≤ szG left xss ∧ szG left xss = left - xss.length - (xss.map List.length).sum := by
  unfold szG
  split
  · exact .inl rfl
  · exact szRows_cases _ _ (by omega)
theorem szRows_drop {l : Int} {xss : List (List Int)} {k : Nat} (h : k < xss.length) : szRows l (xss.drop k) = if szI l (rowAt xss k).length < 0 then -1 else szRows (szI l (rowAt xss k).length) (xss.drop (k + 1)) := by
  rw [List.drop_eq_getElem_cons h, rowAt_eq h]; rfl






end Go.Proofs.Ytmhofeljieicaaa
