/- When a matrix with its sums is a rounding of another: the plain side, and the tests of one number. -/
import Derived.Test.YtmffhipfodlomaaMargs
import Derived.Test.YtmffhipfodlomaaOb
import Derived.Test.YtmffhipfodlomaaEqual
import Derived.BigRegion
namespace Go.Proofs.Ytmffhipfodlomaa
open Go.RowKit

def Near (base n y : Int) : Prop := Int.tmod y base = 0 ∧ n - base < y ∧ y < n + base
instance (base n y : Int) : Decidable (Near base n y) := by unfold Near; infer_instance
def nearB (base n y : Int) : Bool := decide (Near base n y)
theorem near_nonneg {base n y : Int} (hb : 2 ≤ base) (hn : 0 ≤ n) (h : Near base n y) : 0 ≤ y := by
  obtain ⟨h1, h2, h3⟩ := h
  obtain ⟨q, hq⟩ := Int.dvd_of_tmod_eq_zero h1
  by_cases hy : 0 ≤ y
  · exact hy
  · exfalso
    have h5 : q ≤ -1 := by
      by_cases e : q ≤ -1
      · exact e
      · have : 0 ≤ base * q := Int.mul_nonneg (by omega) (by omega)
        omega
    have h6 : base * q ≤ base * (-1) := Int.mul_le_mul_of_nonneg_left h5 (by omega)
    omega
structure RoundOk (x : List (List Int)) (base : Int) (Y : Rd) : Prop where
  len : Y.cells.length = x.length
  row : ∀ k, k < x.length → (rowAt Y.cells k).length = (rowAt x 0).length
  rows : Y.rows.length = x.length
  cols : Y.cols.length = (rowAt x 0).length
  cell : ∀ i j, i < x.length → j < (rowAt x 0).length → Near base (ix (rowAt x i) j) (ix (rowAt Y.cells i) j)
  rsum : rowS Y.cells = Y.rows
  csum : colS Y.cells (rowAt x 0).length = Y.cols
  tsum : (rowS Y.cells).sum = Y.total
  rnear : ∀ i, i < x.length → Near base (ix (rowS x) i) (ix Y.rows i)
  cnear : ∀ j, j < (rowAt x 0).length → Near base (ix (colS x (rowAt x 0).length) j) (ix Y.cols j)
  tnear : Near base (rowS x).sum Y.total
open Classical in
noncomputable def roundsB (x : List (List Int)) (base : Int) (Y : Rd) : Bool := decide (RoundOk x base Y)
open Classical in
theorem roundsB_true {x : List (List Int)} {base : Int} {Y : Rd} (h : RoundOk x base Y) : roundsB x base Y = true := decide_eq_true h
open Classical in
theorem roundsB_false {x : List (List Int)} {base : Int} {Y : Rd} (h : ¬ RoundOk x base Y) : roundsB x base Y = false := decide_eq_false h
theorem roundsB_iff {x : List (List Int)} {base : Int} {Y : Rd} (b : Bool) (h : b = true ↔ RoundOk x base Y) : roundsB x base Y = b := by
  cases b
  · exact roundsB_false (fun hh => by have := h.2 hh; cases this)
  · exact roundsB_true (h.1 rfl)

set_option maxHeartbeats 800000 in
theorem oNear_b (b : Bool) (n y base : Int) (w : World) (hb : nearB base n y = b) (h2 : 2 ≤ base ∧ base ≤ 100) (hn : -1000000000000 ≤ n ∧ n ≤ 1000000000000) (hy : -1000000000000 ≤ y ∧ y ≤ 1000000000000) :
    Calls Try.prog 108 #[.int .i64 n, .int .i64 y, .int .i64 base] w fun e w' => e = .returned (.bool b) ∧ w' = w := by
  have hb0 : (base == 0) = false := beq_false_of_ne (by omega)
  by_cases h0 : Int.tmod y base = 0
  · have hq : (Int.tmod y base == 0) = true := by simp [h0]
    have hd : (decide (1 - base ≤ y - n) && decide (y - n ≤ base - 1)) = b := by
      rw [← hb, nearB]
      have : Near base n y ↔ (1 - base ≤ y - n ∧ y - n ≤ base - 1) := by unfold Near; omega
      rw [Bool.eq_iff_iff]; simp only [Bool.and_eq_true, decide_eq_true_eq]; exact this.symm
    have HD := Lib.hid hd; clear hd hb h0
    go_enter Try.func108, Try.ntmps108
    go_wp2_with fail
    refine (l1In_b b (y - n) (1 - base) (base - 1) _ HD.out).mono ?_
    rintro e w' ⟨rfl, rfl⟩
    go_wp2
    go_ret
    exact ⟨rfl, rfl⟩
  · have hq : (Int.tmod y base == 0) = false := by simp [h0]
    have hB : b = false := by rw [← hb, nearB]; exact decide_eq_false (fun hh => h0 hh.1)
    subst hB
    clear hb h0
    go_enter Try.func108, Try.ntmps108
    go_wp2
    go_ret
    exact ⟨rfl, rfl⟩
set_option maxHeartbeats 800000 in
theorem isRounded_b (b : Bool) (n y base : Int) (w : World) (hb : nearB base n y = b) (h2 : 2 ≤ base ∧ base ≤ 100) (hn : -1000000000000 ≤ n ∧ n ≤ 1000000000000) :
    Calls Try.prog 96 #[.int .i64 n, .int .i64 base, .int .i64 y] w fun e w' => e = .returned (.bool b) ∧ w' = w := by
  have hb0 : (base == 0) = false := beq_false_of_ne (by omega)
  by_cases h0 : Int.tmod y base = 0
  · have hq : (Int.tmod y base == 0) = true := by simp [h0]
    by_cases h3 : n - base < y
    · by_cases h4 : y < n + base
      · have hB : b = true := by rw [← hb, nearB]; exact decide_eq_true ⟨h0, h3, h4⟩
        subst hB
        clear hb h0
        go_enter Try.func96, Try.ntmps96
        go_wp2
        go_ret
        exact ⟨rfl, rfl⟩
      · have hB : b = false := by rw [← hb, nearB]; exact decide_eq_false (fun hh => h4 hh.2.2)
        subst hB
        clear hb h0
        go_enter Try.func96, Try.ntmps96
        go_wp2
        go_ret
        exact ⟨rfl, rfl⟩
    · have hB : b = false := by rw [← hb, nearB]; exact decide_eq_false (fun hh => h3 hh.2.1)
      subst hB
      clear hb h0
      go_enter Try.func96, Try.ntmps96
      go_wp2
      go_ret
      exact ⟨rfl, rfl⟩
  · have hq : (Int.tmod y base == 0) = false := by simp [h0]
    have hB : b = false := by rw [← hb, nearB]; exact decide_eq_false (fun hh => h0 hh.1)
    subst hB
    clear hb h0
    go_enter Try.func96, Try.ntmps96
    go_wp2
    go_ret
    exact ⟨rfl, rfl⟩
set_option maxHeartbeats 800000 in
theorem l1Same_b (b : Bool) (v1 v2 : Value) (xs ys : List Int) (w : World) (hb : decide (xs = ys) = b) (h1 : Ints w v1 xs) (h2 : Ints w v2 ys) :
    Calls Try.prog 109 #[v1, v2] w fun e w' => e = .returned (.bool b) ∧ Drew w w' := by
  subst hb
  obtain ⟨a1, c1, rfl, p1, p2, p3⟩ := h1
  obtain ⟨a2, c2, rfl, q1, q2, q3⟩ := h2
  have G1 := Lib.hid p3; clear p3
  have G2 := Lib.hid q3; clear q3
  by_cases hl : xs.length = ys.length
  · have hd : ((xs.length : Int) != (ys.length : Int)) = false := by simp [hl]
    have HL := Lib.hid hl; clear hl
    go_enter Try.func109, Try.ntmps109
    go_wp2
    go_loopw [13] (fun i wr => ∃ k : Nat, k ≤ xs.length ∧ i = .int .i64 k ∧ (∀ j, j < k → ix xs j = ix ys j) ∧ Drew w wr) (fun i _ => xs.length - (intOf i).toNat)
    case atStart => exact ⟨0, Nat.zero_le _, rfl, fun j hj => by omega, Drew.refl w⟩
    case round =>
      obtain ⟨k, hk, rfl, hj, hdr⟩ := hrel
      have HJ := Lib.hid hj; clear hj
      by_cases hlt : k < xs.length
      · have hlt2 : k < ys.length := by have := HL.out; omega
        obtain ⟨b1, o1, rfl, hc1⟩ := G1.out k hlt
        obtain ⟨b2, o2, rfl, hc2⟩ := G2.out k hlt2
        have hc1' := hdr.cell hc1
        have hc2' := hdr.cell hc2
        clear hc1 hc2
        by_cases he : ix xs k = ix ys k
        · have hq : (ix xs k != ix ys k) = false := by simp [he]
          have HE := Lib.hid he; clear he
          go_wp2_with fail
          go_region
          go_wp2
          go_roundw
          case rel => exact ⟨k + 1, by omega, by go_num, fun j hj => by
            by_cases e : j = k
            · subst e; exact HE.out
            · exact HJ.out j (by omega), hdr.drewN 1⟩
          case measure => simp [intOf]; omega
        · have hq : (ix xs k != ix ys k) = true := by simp [he]
          have HB : Hid (decide (xs = ys) = false) := Lib.hid (decide_eq_false (fun e => he (by rw [e])))
          clear he
          go_wp2_with fail
          go_region
          go_wp2
          go_ret
          rw [HB.out]
          exact ⟨rfl, hdr.drewN 1⟩
      · have HB : Hid (decide (xs = ys) = true) := Lib.hid (decide_eq_true (list_ext_ix HL.out (fun j hj => HJ.out j (by omega))))
        go_wp2
        go_ret
        rw [HB.out]
        exact ⟨rfl, hdr⟩
  · have hd : ((xs.length : Int) != (ys.length : Int)) = true := by simp; omega
    have hB : decide (xs = ys) = false := decide_eq_false (fun e => hl (by rw [e]))
    rw [hB]; clear hB hl
    go_enter Try.func109, Try.ntmps109
    go_wp2
    go_ret
    exact ⟨rfl, Drew.refl w⟩

namespace RoundOk
variable {x : List (List Int)} {base : Int} {Y : Rd}
theorem cellBound (h : RoundOk x base Y) (hx : gridB 7 10000 x = true) (hb : 2 ≤ base ∧ base ≤ 100) {i j : Nat} (hi : i < x.length) (hj : j < (rowAt x 0).length) : 0 ≤ ix (rowAt Y.cells i) j ∧ ix (rowAt Y.cells i) j ≤ 10100 := by
  have h1 := h.cell i j hi hj
  have h2 := gridB_elem hx hi (j := j) (by rw [((gridB_true.1 hx).2.2.2.2 i hi).1]; exact hj)
  have h3 := near_nonneg hb.1 h2.1 h1
  have := h1.2.2
  omega
theorem rowIn (h : RoundOk x base Y) (hx : gridB 7 10000 x = true) (hb : 2 ≤ base ∧ base ≤ 100) {i : Nat} (hi : i < x.length) : allIn 0 1000000 (rowAt Y.cells i) = true :=
  allIn_of (fun j hj => by have := h.cellBound hx hb hi (j := j) (by rw [← h.row i hi]; exact hj); omega)
theorem rowsIn (h : RoundOk x base Y) (hx : gridB 7 10000 x = true) (hb : 2 ≤ base ∧ base ≤ 100) : allIn (-1000000) 1000000 Y.rows = true :=
  allIn_of (fun i hi => by
    rw [h.rows] at hi
    rw [← h.rsum, ix_rowS (by rw [h.len]; exact hi)]
    have hlen := h.row i hi
    have g := gridB_true.1 hx
    have := sum_nonneg_le (B := 10100) (xs := rowAt Y.cells i) (fun y hy => by
      obtain ⟨j, hj, rfl⟩ := List.getElem_of_mem hy
      have := h.cellBound hx hb hi (j := j) (by rw [← hlen]; exact hj)
      rw [ix_eq hj] at this; exact this)
    rw [hlen] at this
    omega)
theorem colsIn (h : RoundOk x base Y) (hx : gridB 7 10000 x = true) (hb : 2 ≤ base ∧ base ≤ 100) : allIn (-1000000) 1000000 Y.cols = true :=
  allIn_of (fun j hj => by
    rw [h.cols] at hj
    rw [← h.csum, ix_colS hj]
    have g := gridB_true.1 hx
    have hlen : (colOf Y.cells j).length = x.length := by rw [colOf_length, h.len]
    have := sum_nonneg_le (B := 10100) (xs := colOf Y.cells j) (fun y hy => by
      obtain ⟨i, hi, rfl⟩ := List.getElem_of_mem hy
      rw [colOf_length] at hi
      have h1 := h.cellBound hx hb (i := i) (by rw [← h.len]; exact hi) hj
      have h2 : ix (colOf Y.cells j) i = ix (rowAt Y.cells i) j := ix_colOf hi
      rw [ix_eq (by rw [colOf_length]; exact hi)] at h2
      rw [h2]; exact h1)
    rw [hlen] at this
    omega)
end RoundOk
theorem matOk_cells {x C : List (List Int)} (hx : gridB 7 10000 x = true) (hl : C.length = x.length) (hr : ∀ k, k < x.length → (rowAt C k).length = (rowAt x 0).length) (he : ∀ i j, i < x.length → j < (rowAt x 0).length → -1000000 ≤ ix (rowAt C i) j ∧ ix (rowAt C i) j ≤ 1000000) : MatOk C (rowAt x 0).length := by
  have g := gridB_true.1 hx
  exact ⟨by omega, by omega, g.2.2.1, by omega, fun k hk => hr k (by omega), fun k l hk hl' => he k l (by omega) hl'⟩
theorem rowS_in {x : List (List Int)} (hx : gridB 7 10000 x = true) {i : Nat} (hi : i < x.length) : -1000000000 ≤ ix (rowS x) i ∧ ix (rowS x) i ≤ 1000000000 :=
  (matOk_of hx).rowS_bound _ (ix_mem (by rw [rowS_length]; exact hi))
theorem colS_in {x : List (List Int)} (hx : gridB 7 10000 x = true) {j : Nat} (hj : j < (rowAt x 0).length) : -1000000000 ≤ ix (colS x (rowAt x 0).length) j ∧ ix (colS x (rowAt x 0).length) j ≤ 1000000000 := by
  have := (matOk_of hx).tame.col (j := j) (fun i hi => by rw [(matOk_of hx).row i hi]; exact hj) x.length
  rw [List.take_of_length_le (by rw [colOf_length]; omega)] at this
  rw [ix_colS hj]; exact this
theorem totS_in {x : List (List Int)} (hx : gridB 7 10000 x = true) : -10000000000 ≤ (rowS x).sum ∧ (rowS x).sum ≤ 10000000000 := by
  have h1 := sum_abs_le (B := 1000000000) (matOk_of hx).rowS_bound
  rw [rowS_length] at h1
  have := (gridB_true.1 hx).2.1
  omega
end Go.Proofs.Ytmffhipfodlomaa
