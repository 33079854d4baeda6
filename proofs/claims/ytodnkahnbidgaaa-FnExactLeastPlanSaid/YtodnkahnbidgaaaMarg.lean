/- Matrices with their sums: the program's 'summed', the spec's 'oMargins'. -/
import Derived.Test.YtodnkahnbidgaaaMat
import Derived.Test.YtodnkahnbidgaaaSums
import Derived.Test.YtodnkahnbidgaaaHold
import Derived.Test.YtodnkahnbidgaaaRd
import Derived.Deep.RegionLaw
import Derived.OwnWalk
namespace Go.Proofs.Ytodnkahnbidgaaa
open Go.RowKit

structure MatOk (x : List (List Int)) (m : Nat) : Prop where
  n1 : 1 ≤ x.length
  n8 : x.length ≤ 8
  m1 : 1 ≤ m
  m8 : m ≤ 8
  row : ∀ k, k < x.length → (rowAt x k).length = m
  el : ∀ k l, k < x.length → l < m → -1000000 ≤ ix (rowAt x k) l ∧ ix (rowAt x k) l ≤ 1000000
namespace MatOk
variable {x : List (List Int)} {m : Nat}
theorem tame (h : MatOk x m) : Tame x := ⟨by have := h.n8; omega, fun i hi => ⟨by have := h.row i hi; have := h.m8; omega, fun j hj => h.el i j hi (by have := h.row i hi; omega)⟩⟩
theorem rowSumOk (h : MatOk x m) {k : Nat} (hk : k < x.length) : SumOk (rowAt x k) := sumOk_of (h.tame.row hk)
theorem colSumOk (h : MatOk x m) {j : Nat} (hj : j < m) : SumOk (colOf x j) := sumOk_of (h.tame.col (fun i hi => by rw [h.row i hi]; exact hj))
theorem rowS_bound (h : MatOk x m) : ∀ y ∈ rowS x, -1000000000 ≤ y ∧ y ≤ 1000000000 := fun y hy => by
  obtain ⟨i, hi, rfl⟩ := List.getElem_of_mem hy
  have hi' := hi
  rw [rowS_length] at hi'
  have h1 := h.tame.row hi' (rowAt x i).length
  rw [List.take_length] at h1
  rw [← ix_eq hi, ix_rowS hi']; exact h1
theorem sumOk (h : MatOk x m) : SumOk (rowS x) := SumOk.of_bound (B := 1000000000) (by omega) h.rowS_bound (n := 8) (by rw [rowS_length]; exact h.n8) (by omega)
end MatOk
def margD (x : List (List Int)) (m : Nat) : Rd := ⟨x, rowS x, colS x m, (rowS x).sum⟩


end Go.Proofs.Ytodnkahnbidgaaa
