/- Ranges of blocks; grids of few rows are small. -/
import Derived.Test.YtolmmhdeebgglaaSz
namespace Go.Proofs.Ytolmmhdeebgglaa
open Go.RowKit
theorem rgOf {lo hi : Nat} {w w' : World} (_ : Upd (fun b => lo ≤ b ∧ b < hi) w w') : ∀ b, (lo ≤ b ∧ b < hi) → lo ≤ b ∧ b < hi := fun _ hb => hb
theorem sum_len_le {b : Nat} {xss : List (List Int)} (h : ∀ r ∈ xss, r.length ≤ b) : (xss.map List.length).sum ≤ b * xss.length := by
  induction xss with
  | nil => simp
  | cons r rs ih =>
    have h1 := h r (by simp)
    have h2 := ih (fun q hq => h q (by simp [hq]))
    simp only [List.map_cons, List.sum_cons, List.length_cons]
    rw [Nat.mul_add]; omega
theorem Small.of_rows8 {xss : List (List Int)} (h1 : xss.length ≤ 8) (h2 : ∀ k, k < xss.length → (rowAt xss k).length ≤ 8) : Small xss := by
  have h3 := sum_len_le (b := 8) (xss := xss) (fun r hr => by
    obtain ⟨i, hi, rfl⟩ := List.getElem_of_mem hr
    have := h2 i hi; rwa [rowAt_eq hi] at this)
  exact Small.of_bound (by omega)
end Go.Proofs.Ytolmmhdeebgglaa
