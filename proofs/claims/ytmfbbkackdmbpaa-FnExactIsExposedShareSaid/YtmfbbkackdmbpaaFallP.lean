/- Amounts: what IsDominated and IsExposedShare say. No program in sight. -/
import Derived.Test.YtmfbbkackdmbpaaSortP
import Derived.Test.YtmfbbkackdmbpaaNum
namespace Go.Proofs.Ytmfbbkackdmbpaa

/-- valid amounts -/
def AmP (xs : List Int) : Prop := xs.length ≤ 40 ∧ ∀ k, k < xs.length → 0 ≤ ix xs k ∧ ix xs k ≤ 1000000
open Classical in
noncomputable def amB (xs : List Int) : Bool := decide (AmP xs)
theorem amB_true {xs : List Int} : amB xs = true ↔ AmP xs := by simp [amB]
theorem amB_not {xs : List Int} (h : ¬ AmP xs) : amB xs = false := by simp [amB, h]
theorem AmP.mem {xs : List Int} (h : AmP xs) {x : Int} (hx : x ∈ xs) : 0 ≤ x ∧ x ≤ 1000000 := by
  obtain ⟨k, hk, rfl⟩ := List.getElem_of_mem hx
  have := h.2 k hk
  rwa [ix_eq hk] at this
theorem sum_bnd : ∀ {ys : List Int}, (∀ x ∈ ys, 0 ≤ x ∧ x ≤ 1000000) → 0 ≤ ys.sum ∧ ys.sum ≤ 1000000 * (ys.length : Int)
  | [], _ => by simp
  | y :: ys, h => by
    have h1 := h y (by simp)
    have h2 := sum_bnd (ys := ys) (fun x hx => h x (by simp [hx]))
    simp only [List.sum_cons, List.length_cons]
    push_cast
    omega
theorem AmP.fall {xs : List Int} (h : AmP xs) {x : Int} (hx : x ∈ fallI xs) : 0 ≤ x ∧ x ≤ 1000000 := h.mem ((fallI_perm xs).mem_iff.1 hx)
theorem AmP.part {xs : List Int} (h : AmP xs) {ys : List Int} (hs : ∀ x ∈ ys, x ∈ fallI xs) (hl : ys.length ≤ 40) : 0 ≤ ys.sum ∧ ys.sum ≤ 40000000 := by
  have := sum_bnd (ys := ys) (fun x hx => h.fall (hs x hx))
  omega
theorem perm_sum {xs ys : List Int} (h : xs.Perm ys) : xs.sum = ys.sum := by
  induction h with
  | nil => rfl
  | cons x _ ih => simp [ih]
  | swap x y l => simp only [List.sum_cons]; omega
  | trans _ _ h1 h2 => exact h1.trans h2
theorem fallI_sum (xs : List Int) : (fallI xs).sum = xs.sum := perm_sum (fallI_perm xs)
theorem AmP.sumOk {xs : List Int} (h : AmP xs) {ys : List Int} (hs : ∀ x ∈ ys, x ∈ fallI xs) (hl : ys.length ≤ 40) : SumOk ys :=
  SumOk.of_bound (B := 1000000) (by decide) (fun x hx => by have := h.fall (hs x hx); omega) hl (by decide)
theorem AmP.sumOk0 {xs : List Int} (h : AmP xs) : SumOk xs :=
  SumOk.of_bound (B := 1000000) (by decide) (fun x hx => by have := h.mem hx; omega) h.1 (by decide)
theorem AmP.sum {xs : List Int} (h : AmP xs) : 0 ≤ xs.sum ∧ xs.sum ≤ 40000000 := by
  have h1 := sum_bnd (ys := xs) (fun x hx => h.mem hx)
  have h2 := h.1
  omega
theorem prod_bnd {p S : Int} (hp : 0 ≤ p ∧ p ≤ 100) (hS : 0 ≤ S ∧ S ≤ 40000000) : 0 ≤ p * S ∧ p * S ≤ 4000000000 :=
  ⟨Int.mul_nonneg hp.1 hS.1, by have := Int.mul_le_mul hp.2 hS.2 hS.1 (by decide); omega⟩
/-- the sum of the first N, of those among the first i -/
def topTo (f : List Int) (N i : Nat) : Int := ((f.take i).take N).sum
theorem topTo_zero (f : List Int) (N : Nat) : topTo f N 0 = 0 := by simp [topTo]
theorem topTo_in {f : List Int} {N i : Nat} (hi : i < f.length) (h : i < N) : topTo f N (i + 1) = topTo f N i + ix f i := by
  unfold topTo
  rw [List.take_take, List.take_take, Nat.min_eq_right (by omega), Nat.min_eq_right (by omega), take_succ_ix hi, List.sum_append]
  simp
theorem topTo_out {f : List Int} {N i : Nat} (h : N ≤ i) : topTo f N (i + 1) = topTo f N i := by
  unfold topTo
  rw [List.take_take, List.take_take, Nat.min_eq_left (by omega), Nat.min_eq_left (by omega)]
theorem AmP.topTo {xs : List Int} (h : AmP xs) (N i : Nat) : 0 ≤ topTo (fallI xs) N i ∧ topTo (fallI xs) N i ≤ 40000000 :=
  h.part (fun x hx => List.mem_of_mem_take (List.mem_of_mem_take hx)) (by simp [fallI_len]; have := h.1; omega)
theorem AmP.ixF {xs : List Int} (h : AmP xs) {k : Nat} (hk : k < xs.length) : 0 ≤ ix (fallI xs) k ∧ ix (fallI xs) k ≤ 1000000 :=
  h.fall (ix_mem (by rw [fallI_len]; exact hk))
theorem topTo_all (f : List Int) (N : Nat) : topTo f N f.length = (f.take N).sum := by simp [topTo]
/-- the sum of those from place 2 on, among the first i -/
def restTo (f : List Int) (i : Nat) : Int := ((f.take i).drop 2).sum
theorem restTo_zero (f : List Int) : restTo f 0 = 0 := by simp [restTo]
theorem restTo_in {f : List Int} {i : Nat} (hi : i < f.length) (h : 2 ≤ i) : restTo f (i + 1) = restTo f i + ix f i := by
  unfold restTo
  rw [take_succ_ix hi, List.drop_append_of_le_length (by simp; omega), List.sum_append]
  simp
theorem restTo_out {f : List Int} {i : Nat} (h : i < 2) : restTo f (i + 1) = restTo f i := by
  unfold restTo
  rw [List.drop_of_length_le (by simp; omega), List.drop_of_length_le (by simp; omega)]
theorem AmP.restTo {xs : List Int} (h : AmP xs) (i : Nat) : 0 ≤ restTo (fallI xs) i ∧ restTo (fallI xs) i ≤ 40000000 :=
  h.part (fun x hx => List.mem_of_mem_take (List.mem_of_mem_drop hx)) (by simp [fallI_len]; have := h.1; omega)
theorem restTo_all (f : List Int) : restTo f f.length = (f.drop 2).sum := by simp [restTo]
/-- the arguments of IsDominated, of IsExposedShare -/
def DmP (xs : List Int) (n p : Int) : Prop := AmP xs ∧ (1 ≤ n ∧ n ≤ 10) ∧ (0 ≤ p ∧ p ≤ 100)
def EsP (xs : List Int) (p : Int) : Prop := AmP xs ∧ (0 ≤ p ∧ p ≤ 100)
open Classical in
noncomputable def dmB (xs : List Int) (n p : Int) : Bool := decide (DmP xs n p)
open Classical in
noncomputable def dmV (xs : List Int) (n p : Int) : Bool := decide (DmP xs n p ∧ p * xs.sum < 100 * ((fallI xs).take n.toNat).sum)
open Classical in
noncomputable def esB (xs : List Int) (p : Int) : Bool := decide (EsP xs p)
open Classical in
noncomputable def esV (xs : List Int) (p : Int) : Bool := decide (EsP xs p ∧ xs ≠ [] ∧ 100 * ((fallI xs).drop 2).sum < p * ix (fallI xs) 0)
end Go.Proofs.Ytmfbbkackdmbpaa
