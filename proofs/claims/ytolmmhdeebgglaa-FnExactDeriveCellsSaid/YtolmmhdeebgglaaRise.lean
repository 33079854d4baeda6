/- Lists of indices: members, strictly increasing lists; the spec's checks. -/
import Derived.Test.YtolmmhdeebgglaaGrid
namespace Go.Proofs.Ytolmmhdeebgglaa
open Go.RowKit

def hasI (xs : List Int) (n : Int) : Bool := xs.any fun x => decide (x = n)
theorem hasI_of {xs : List Int} {n : Int} {j : Nat} (hj : j < xs.length) (h : ix xs j = n) : hasI xs n = true := by
  unfold hasI; rw [List.any_eq_true]; exact ⟨_, ix_mem hj, by simp [h]⟩
theorem hasI_not {xs : List Int} {n : Int} (h : ∀ j, j < xs.length → ix xs j ≠ n) : hasI xs n = false := by
  apply Bool.eq_false_iff.2
  intro e
  obtain ⟨x, hx, hn⟩ := List.any_eq_true.1 e
  obtain ⟨j, hj, rfl⟩ := List.getElem_of_mem hx
  exact h j hj (by rw [ix_eq hj]; simpa using hn)
/-- strictly increasing, and below n -/
def Rising (n : Int) (xs : List Int) : Prop := ∀ k, k < xs.length → (0 ≤ ix xs k ∧ ix xs k < n) ∧ (0 < k → ix xs (k - 1) < ix xs k)
open Classical in
noncomputable def risingB (n : Int) (xs : List Int) : Bool := decide (Rising n xs)
theorem risingB_true {n : Int} {xs : List Int} : risingB n xs = true ↔ Rising n xs := by simp [risingB]
theorem risingB_false {n : Int} {xs : List Int} (h : ¬ Rising n xs) : risingB n xs = false := by simp [risingB, h]
theorem Rising.lt {n : Int} {xs : List Int} (h : Rising n xs) : ∀ {j k : Nat}, j < k → k < xs.length → ix xs j < ix xs k := by
  intro j k hjk
  induction k with
  | zero => omega
  | succ k ih =>
    intro hk
    have h1 := (h (k + 1) hk).2 (by omega)
    rw [Nat.add_sub_cancel] at h1
    by_cases e : j = k
    · subst e; exact h1
    · have := ih (by omega) (by omega); omega
theorem Rising.ge {n : Int} {xs : List Int} (h : Rising n xs) : ∀ {k : Nat}, k < xs.length → (k : Int) ≤ ix xs k := by
  intro k
  induction k with
  | zero => intro hk; exact (h 0 hk).1.1
  | succ k ih =>
    intro hk
    have h1 := h.lt (j := k) (k := k + 1) (by omega) hk
    have := ih (by omega); push_cast; omega
theorem Rising.length {n : Int} {xs : List Int} (h : Rising n xs) (hn : 0 ≤ n) : (xs.length : Int) ≤ n := by
  by_cases e : xs.length = 0
  · omega
  · have h1 := h.ge (k := xs.length - 1) (by omega)
    have h2 := (h (xs.length - 1) (by omega)).1.2
    omega
theorem Rising.nodup {n : Int} {xs : List Int} (h : Rising n xs) : xs.Nodup := by
  rw [List.Nodup, List.pairwise_iff_getElem]
  intro i j hi hj hij e
  have := h.lt hij hj
  rw [ix_eq hi, ix_eq hj] at this
  omega
set_option maxHeartbeats 400000 in
theorem l1Has_b (b : Bool) (v : Value) (xs : List Int) (n : Int) (w : World) (hb : hasI xs n = b) (h : Ints w v xs) : Calls Try.prog 69 #[v, .int .i64 n] w fun e w' => e = .returned (.bool b) ∧ w' = w := by
  subst hb
  obtain ⟨ao, cap, rfl, h1, h2, h3⟩ := h
  have G := Lib.hid h3; clear h3
  go_enter Try.func69, Try.ntmps69
  go_wp2
  go_loop [9] (fun i => ∃ k : Nat, k ≤ xs.length ∧ i = .int .i64 k ∧ ∀ j, j < k → ix xs j ≠ n) (fun i => xs.length - (intOf i).toNat)
  case atStart => exact ⟨0, Nat.zero_le _, rfl, fun j hj => by omega⟩
  case round =>
    obtain ⟨k, hk, rfl, hj⟩ := hrel
    have HJ := Lib.hid hj; clear hj
    by_cases hlt : k < xs.length
    · obtain ⟨b, o, rfl, hc⟩ := G.out k hlt
      by_cases he : ix xs k = n
      · go_wp2
        go_ret
        exact ⟨ret_bool (hasI_of hlt he).symm, rfl⟩
      · have HE := Lib.hid he
        go_wp2
        go_round
        case rel => exact ⟨k + 1, by omega, by go_num, fun j hj => by
          by_cases e : j = k
          · subst e; exact HE.out
          · exact HJ.out j (by omega)⟩
        case measure => simp [intOf]; omega
    · go_wp2
      go_ret
      exact ⟨ret_bool (hasI_not (fun j hj => HJ.out j (by omega))).symm, rfl⟩
set_option maxHeartbeats 800000 in
theorem l1Rising_b (b : Bool) (v : Value) (xs : List Int) (n hi : Int) (w : World) (hb : risingB n xs = b) (hh : hi = n - 1) (h : Ints w v xs) :
    Calls Try.prog 78 #[v, .int .i64 0, .int .i64 hi] w fun e w' => e = .returned (.bool b) ∧ w' = w := by
  subst hb
  obtain ⟨ao, cap, rfl, h1, h2, h3⟩ := h
  have G := Lib.hid h3; clear h3
  have HH := Lib.hid hh; clear hh
  go_enter Try.func78, Try.ntmps78
  go_wp2
  go_loop [11] (fun i => ∃ k : Nat, k ≤ xs.length ∧ i = .int .i64 k ∧ ∀ j, j < k → (0 ≤ ix xs j ∧ ix xs j < n) ∧ (0 < j → ix xs (j - 1) < ix xs j)) (fun i => xs.length - (intOf i).toNat)
  case atStart => exact ⟨0, Nat.zero_le _, rfl, fun j hj => by omega⟩
  case round =>
    obtain ⟨k, hk, rfl, hj⟩ := hrel
    have HJ := Lib.hid hj; clear hj
    by_cases hlt : k < xs.length
    · obtain ⟨b, o, rfl, hc⟩ := G.out k hlt
      by_cases hin : 0 ≤ ix xs k ∧ ix xs k < n
      · have hd : (decide (0 ≤ ix xs k) && decide (ix xs k ≤ hi)) = true := by have := HH.out; simp; omega
        have HD := Lib.hid hd; clear hd
        have HIN := Lib.hid hin; clear hin
        by_cases hk0 : 0 < k
        · have hk1 : k - 1 < xs.length := by omega
          obtain ⟨b', o', e', hc'⟩ := G.out (k - 1) hk1
          simp only [Option.some.injEq, Addr.mk.injEq, and_true] at e'
          obtain ⟨rfl, rfl⟩ := e'
          obtain ⟨K, rfl⟩ : ∃ K, k = K + 1 := ⟨k - 1, by omega⟩
          rw [Nat.add_sub_cancel] at hc'
          by_cases hlt3 : ix xs K < ix xs (K + 1)
          · have HL := Lib.hid hlt3
            go_wp2_with fail
            refine (l1In_b true _ 0 hi _ HD.out).mono ?_
            rintro e w' ⟨rfl, rfl⟩
            go_wp2
            go_round
            case rel => exact ⟨K + 1 + 1, by omega, by go_num, fun j hj => by
              by_cases e : j = K + 1
              · subst e; exact ⟨HIN.out, fun _ => by rw [Nat.add_sub_cancel]; exact HL.out⟩
              · exact HJ.out j (by omega)⟩
            case measure => simp [intOf]; omega
          · have HB := Lib.hid (risingB_false (n := n) (xs := xs) (fun hr => hlt3 (by have := (hr (K + 1) hlt).2 (by omega); rwa [Nat.add_sub_cancel] at this)))
            go_wp2_with fail
            refine (l1In_b true _ 0 hi _ HD.out).mono ?_
            rintro e w' ⟨rfl, rfl⟩
            go_wp2
            go_ret
            rw [HB.out]
            exact ⟨rfl, rfl⟩
        · go_wp2_with fail
          refine (l1In_b true _ 0 hi _ HD.out).mono ?_
          rintro e w' ⟨rfl, rfl⟩
          go_wp2
          go_round
          case rel => exact ⟨k + 1, by omega, by go_num, fun j hj => by
            have : j = k := by omega
            subst this; exact ⟨HIN.out, fun h => by omega⟩⟩
          case measure => simp [intOf]; omega
      · have hd : (decide (0 ≤ ix xs k) && decide (ix xs k ≤ hi)) = false := by
          have := HH.out
          rw [Bool.and_eq_false_iff]; simp only [decide_eq_false_iff_not]; omega
        have HB := Lib.hid (risingB_false (n := n) (xs := xs) (fun hr => hin (hr k hlt).1))
        have HD := Lib.hid hd; clear hd hin
        go_wp2_with fail
        refine (l1In_b false _ 0 hi _ HD.out).mono ?_
        rintro e w' ⟨rfl, rfl⟩
        go_wp2
        go_ret
        rw [HB.out]
        exact ⟨rfl, rfl⟩
    · have HB := Lib.hid (risingB_true.2 (show Rising n xs from fun j hj => HJ.out j (by omega)))
      go_wp2
      go_ret
      rw [HB.out]
      exact ⟨rfl, rfl⟩
end Go.Proofs.Ytolmmhdeebgglaa
