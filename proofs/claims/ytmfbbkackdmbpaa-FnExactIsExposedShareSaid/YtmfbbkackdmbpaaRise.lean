/- Lists of indices: members, strictly increasing lists; the spec's checks. -/
import Derived.Test.YtmfbbkackdmbpaaGrid
namespace Go.Proofs.Ytmfbbkackdmbpaa
open Go.RowKit

def hasI (xs : List Int) (n : Int) : Bool := xs.any fun x => decide (x = n)
theorem hasI_of {xs : List Int} {n : Int} {j : Nat} (hj : j < xs.length) (h : ix xs j = n) : hasI xs n = true := by
  unfold hasI; rw [List.any_eq_true]; exact ⟨_, ix_mem hj, by simp [h]⟩
theorem hasI_not {xs : List Int} {n : Int} (h : ∀ j, j < xs.length → ix xs j ≠ n) : hasI xs n = false := by
  apply Bool.eq_false_iff.2
  intro e
  obtain ⟨x, hx, hn⟩ := List.any_eq_true.1 e
  obtain ⟨j, hj, rfl⟩ := List.getElem_of_mem hx
  exact h j hj (by rw [ix_eq hj]; simpa using hn)
/-- strictly increasing, and below n -/
def Rising (n : Int) (xs : List Int) : Prop := ∀ k, k < xs.length → (0 ≤ ix xs k ∧ ix xs k < n) ∧ (0 < k → ix xs (k - 1) < ix xs k)
open Classical in
noncomputable def risingB (n : Int) (xs : List Int) : Bool := decide (Rising n xs)
theorem risingB_true {n : Int} {xs : List Int} : risingB n xs = true ↔ Rising n xs := by simp [risingB]
theorem risingB_false {n : Int} {xs : List Int} (h : ¬ Rising n xs) : risingB n xs = false := by simp [risingB, h]
theorem Rising.lt {n : Int} {xs : List Int} (h : Rising n xs) : ∀ {j k : Nat}, j < k → k < xs.length → ix xs j < ix xs k := by
  intro j k hjk
  induction k with
  | zero => omega
  | succ k ih =>
    intro hk
    have h1 := (h (k + 1) hk).2 (by omega)
    rw [Nat.add_sub_cancel] at h1
    by_cases e : j = k
    · subst e; exact h1
    · have := ih (by omega) (by omega); omega
theorem Rising.ge {n : Int} {xs : List Int} (h : Rising n xs) : ∀ {k : Nat}, k < xs.length → (k : Int) ≤ ix xs k := by
  intro k
  induction k with
  | zero => intro hk; exact (h 0 hk).1.1
  | succ k ih =>
    intro hk
    have h1 := h.lt (j := k) (k := k + 1) (by omega) hk
    have := ih (by omega); push_cast; omega
theorem Rising.length {n : Int} {xs : List Int} (h : Rising n xs) (hn : 0 ≤ n) : (xs.length : Int) ≤ n := by
  by_cases e : xs.length = 0
  · omega
  · have h1 := h.ge (k := xs.length - 1) (by omega)
    have h2 := (h (xs.length - 1) (by omega)).1.2
    omega
theorem Rising.nodup {n : Int} {xs : List Int} (h : Rising n xs) : xs.Nodup := by
  rw [List.Nodup, List.pairwise_iff_getElem]
  intro i j hi hj hij e
  have := h.lt hij hj
  rw [ix_eq hi, ix_eq hj] at this
  omega
end Go.Proofs.Ytmfbbkackdmbpaa
