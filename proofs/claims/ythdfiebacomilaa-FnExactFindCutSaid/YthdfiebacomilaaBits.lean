/- The positions of the bits of a mask, the program's membersOf. -/
import Derived.Test.YthdfiebacomilaaCols
import Derived.Laws.Shifts
import Derived.Lib.RabinKarpLaws
namespace Go.Proofs.Ythdfiebacomilaa
open Go.RowKit
open Fm

/-- the positions of the bits that are 1, below n -/
def bitsI (mask n : Nat) : List Int := picked (fun i => mask.testBit i) n
theorem bitsI_stop {mask k : Nat} (h : mask / 2 ^ k = 0) : ∀ {n : Nat}, k ≤ n → bitsI mask n = bitsI mask k := by
  intro n hn
  induction n with
  | zero => have : k = 0 := by omega
            subst this; rfl
  | succ n ih =>
    by_cases e : k = n + 1
    · rw [e]
    · have hk : k ≤ n := by omega
      rw [← ih hk]
      show (if _ then _ else _) = _
      have hlt : mask < 2 ^ n := by
        have h1 : mask < 2 ^ k := by
          have := Nat.lt_mul_div_succ mask (Nat.pow_pos (n := k) (show 0 < 2 by omega))
          rw [h] at this; simpa using this
        exact Nat.lt_of_lt_of_le h1 (Nat.pow_le_pow_right (by omega) hk)
      rw [if_neg (by show ¬ mask.testBit n = true; rw [Nat.testBit_lt_two_pow hlt]; simp)]
      rfl
theorem bitsI_succ (mask k : Nat) : bitsI mask (k + 1) = if mask.testBit k = true then bitsI mask k ++ [(k : Int)] else bitsI mask k := rfl
theorem bit_test (mask k : Nat) (hm : mask < 9223372036854775808) : (bits BinOp.and IntKind.i64 ((mask : Int) / 2 ^ k) 1 == 1) = mask.testBit k := by
  have e : (mask : Int) / 2 ^ k = ((mask / 2 ^ k : Nat) : Int) := by simp
  rw [e, and_one _ (by have := Nat.div_le_self mask (2 ^ k); omega), Nat.testBit_eq_decide_div_mod_eq]
  by_cases h : mask / 2 ^ k % 2 = 1
  · simp [h]
  · have h2 : mask / 2 ^ k % 2 = 0 := by omega
    simp [h2]
theorem bit_zero (mask k : Nat) : ((mask : Int) / 2 ^ k != 0) = decide (mask / 2 ^ k ≠ 0) := by
  have e : (mask : Int) / 2 ^ k = ((mask / 2 ^ k : Nat) : Int) := by simp
  rw [e]
  by_cases h : mask / 2 ^ k = 0
  · simp [h]
  · have : ((mask / 2 ^ k : Nat) : Int) ≠ 0 := by omega
    simp only [bne, decide_not]
    rw [show (((mask / 2 ^ k : Nat) : Int) == 0) = false by simpa using this]
    simp [h]

set_option maxHeartbeats 1600000 in
theorem membersOf_c (mask n : Nat) (w : World) (hm : mask < 2 ^ n) (hn : n ≤ 8) :
    Calls Try.prog 64 #[.int .i64 mask] w (RetInts (fun v' => v') w (bitsI mask n)) := by
  have hm256 : mask < 256 := by
    have : 2 ^ n ≤ 2 ^ 8 := Nat.pow_le_pow_right (by omega) hn
    omega
  have HM := Lib.hid hm; clear hm
  go_enter Try.func64, Try.ntmps64
  go_wp2
  go_loopg [3, 4] n (fun gk r i wr => ∃ k : Nat, gk + k = n ∧ i = .int .i64 k ∧ IRow w.heap.size wr r (bitsI mask k) ∧ Ext w wr)
  case atStart => exact ⟨0, rfl, rfl, IRow.nil, Ext.refl _⟩
  case round =>
    obtain ⟨k, hk, rfl, hr, hx⟩ := hrel
    obtain ⟨wo, rfl⟩ : ∃ wo : World, wo = wr := ⟨_, rfl⟩
    have HRW := Lib.hid hr; clear hr
    obtain ⟨ao_, co_, evr⟩ := HRW.out.form
    subst evr
    have hz := bit_zero mask k
    have hb := bit_test mask k (by omega)
    by_cases h0 : mask / 2 ^ k = 0
    · have hz' : ((mask : Int) / 2 ^ k != 0) = false := by rw [hz]; simp [h0]
      have HST := Lib.hid (bitsI_stop h0 (n := n) (by omega))
      clear hz hb h0
      go_wp2
      go_ret
      exact ⟨.slice ao_ (bitsI mask k).length co_, rfl, by rw [HST.out]; exact HRW.out.own (Nat.le_refl _), hx⟩
    · have hz' : ((mask : Int) / 2 ^ k != 0) = true := by rw [hz]; simp [h0]
      have hkn : k < n := by
        apply Classical.byContradiction
        intro hc
        apply h0
        apply Nat.div_eq_of_lt
        exact Nat.lt_of_lt_of_le HM.out (Nat.pow_le_pow_right (by omega) (by omega))
      have hbs := bitsI_succ mask k
      clear hz h0
      cases ht : mask.testBit k
      · rw [ht] at hb hbs
        simp only [Bool.false_eq_true, if_false] at hbs
        have HBS := Lib.hid hbs; clear hbs ht
        go_wp2
        go_roundg (gk - 1)
        case rel => exact ⟨k + 1, by omega, by go_num, by rw [HBS.out]; exact HRW.out, hx⟩
        case measure => omega
      · rw [ht] at hb hbs
        simp only [if_true] at hbs
        have HBS := Lib.hid hbs; clear hbs ht
        have hpl := picked_length (fun i => mask.testBit i) k
        have hpl' : (bitsI mask k).length ≤ k := hpl
        have hown := HRW.out.ext ((Ext.refl wo).alloc (.cells #[.int .i64 k] 3))
        have HOWN := Lib.hid hown
        unfold IRow at hown
        have HOW2 := Lib.hid hown; clear hown hpl
        have hs := hx.size
        go_wp2_with (at_builtin; go_loud (refine app1 _ rfl _ _ 22 3 rfl (.int .i64 0) 8 Try.underlying22 info_int rfl w.heap.size _ (bitsI mask k).length _ rfl HOW2.out wo.heap.size 1 3 (.int .i64 k) rfl (Box.new _ _ _ rfl) rfl (by omega) (by omega) (by simp; omega) ?_))
        intro g cp w3 hown3 hgrow hat hlt3
        have hx3 := HOWN.out.grew (hx.alloc _) (Nat.le_refl _) hgrow
        have HO3 := Lib.hid hown3; clear hown3
        have HX3 := Lib.hid hx3; clear hx3
        clear hgrow
        go_wp2
        go_roundg (gk - 1)
        case rel => exact ⟨k + 1, by omega, by go_num, by rw [HBS.out]; exact IRow.push (by simpa using HO3.out), HX3.out⟩
        case measure => omega
end Go.Proofs.Ythdfiebacomilaa
