/- Sums of rows and columns, the spec's and the program's. -/
import Derived.Test.YtmfbbkackdmbpaaCell
import Derived.Test.YtmfbbkackdmbpaaApp
import Derived.Test.YtmfbbkackdmbpaaBase
namespace Go.Proofs.Ytmfbbkackdmbpaa
open Go.RowKit

def rowS (xss : List (List Int)) : List Int := (List.range xss.length).map fun i => (rowAt xss i).sum
def colOf (xss : List (List Int)) (j : Nat) : List Int := (List.range xss.length).map fun i => ix (rowAt xss i) j
def colS (xss : List (List Int)) (m : Nat) : List Int := (List.range m).map fun j => (colOf xss j).sum
theorem rowS_length (xss : List (List Int)) : (rowS xss).length = xss.length := by simp [rowS]
theorem colS_length (xss : List (List Int)) (m : Nat) : (colS xss m).length = m := by simp [colS]
theorem colOf_length (xss : List (List Int)) (j : Nat) : (colOf xss j).length = xss.length := by simp [colOf]
theorem ix_rowS {xss : List (List Int)} {i : Nat} (h : i < xss.length) : ix (rowS xss) i = (rowAt xss i).sum := by simp [ix, rowS, List.getD, h]
theorem ix_colS {xss : List (List Int)} {m j : Nat} (h : j < m) : ix (colS xss m) j = (colOf xss j).sum := by simp [ix, colS, List.getD, h]
theorem ix_colOf {xss : List (List Int)} {i j : Nat} (h : i < xss.length) : ix (colOf xss j) i = ix (rowAt xss i) j := by simp [ix, colOf, List.getD, h]
/-- the elements lie within a million of 0, and the sides are short -/
def Tame (xss : List (List Int)) : Prop := xss.length ≤ 1000 ∧ ∀ i, i < xss.length → (rowAt xss i).length ≤ 1000 ∧ ∀ j, j < (rowAt xss i).length → -1000000 ≤ ix (rowAt xss i) j ∧ ix (rowAt xss i) j ≤ 1000000
theorem tame_mem {xs : List Int} (h : ∀ j, j < xs.length → -1000000 ≤ ix xs j ∧ ix xs j ≤ 1000000) : ∀ x ∈ xs, -1000000 ≤ x ∧ x ≤ 1000000 := by
  intro x hx
  obtain ⟨j, hj, rfl⟩ := List.getElem_of_mem hx
  rw [← ix_eq hj]; exact h j hj
theorem sum_tame {xs : List Int} (h : ∀ j, j < xs.length → -1000000 ≤ ix xs j ∧ ix xs j ≤ 1000000) (hl : xs.length ≤ 1000) (k : Nat) : -1000000000 ≤ (xs.take k).sum ∧ (xs.take k).sum ≤ 1000000000 := by
  have h1 := sum_abs_le (B := 1000000) (xs := xs.take k) (fun x hx => tame_mem h x (List.mem_of_mem_take hx))
  have h2 : (xs.take k).length ≤ 1000 := by simp; omega
  omega
theorem Tame.row {xss : List (List Int)} (h : Tame xss) {i : Nat} (hi : i < xss.length) (k : Nat) : -1000000000 ≤ ((rowAt xss i).take k).sum ∧ ((rowAt xss i).take k).sum ≤ 1000000000 :=
  sum_tame (h.2 i hi).2 (h.2 i hi).1 k
theorem Tame.col {xss : List (List Int)} (h : Tame xss) {j : Nat} (hj : ∀ i, i < xss.length → j < (rowAt xss i).length) (k : Nat) : -1000000000 ≤ ((colOf xss j).take k).sum ∧ ((colOf xss j).take k).sum ≤ 1000000000 :=
  sum_tame (xs := colOf xss j) (fun i hi => by rw [colOf_length] at hi; rw [ix_colOf hi]; exact (h.2 i hi).2 j (hj i hi)) (by rw [colOf_length]; exact h.1) k
theorem sumOk_of {xs : List Int} (h : ∀ k, -1000000000 ≤ (xs.take k).sum ∧ (xs.take k).sum ≤ 1000000000) : SumOk xs := fun k => by have := h k; omega

set_option maxHeartbeats 400000 in
theorem tSum_c (v : Value) (xs : List Int) (w : World) (h : Ints w v xs) (hs : SumOk xs) :
    Calls Try.prog 16 #[v] w fun e w' => e = .returned (.int .i64 xs.sum) ∧ w' = w := by
  obtain ⟨ao, cap, rfl, h1, h2, h3⟩ := h
  have G := Lib.hid h3; clear h3
  have HS := Lib.hid hs; clear hs
  go_enter Try.func16, Try.ntmps16
  go_wp2
  go_loop [3, 8] (fun s i => ∃ k : Nat, k ≤ xs.length ∧ i = .int .i64 k ∧ s = .int .i64 (xs.take k).sum) (fun _ i => xs.length - (intOf i).toNat)
  case atStart => exact ⟨0, Nat.zero_le _, rfl, by simp⟩
  case round =>
    obtain ⟨k, hk, rfl, rfl⟩ := hrel
    by_cases hlt : k < xs.length
    · obtain ⟨b, o, rfl, hc⟩ := G.out k hlt
      have b1 := HS.out k
      have b2 := HS.out (k + 1)
      have e2 := Lib.hid (sum_take_succ hlt)
      rw [e2.out] at b2
      go_wp2
      go_round
      case rel => exact ⟨k + 1, by omega, by go_num, by rw [e2.out]⟩
      case measure => simp [intOf]; omega
    · go_wp2
      go_ret
      exact ⟨ret_int (by rw [List.take_of_length_le (by omega)]), rfl⟩



end Go.Proofs.Ytmfbbkackdmbpaa
