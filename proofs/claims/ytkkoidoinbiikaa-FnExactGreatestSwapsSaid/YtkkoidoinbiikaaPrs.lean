/- Lists of pairs of indices: the spec's swPairs, the program's isPair and arePairs. -/
import Derived.Test.YtkkoidoinbiikaaInp
namespace Go.Proofs.Ytkkoidoinbiikaa
open Go.RowKit

/-- a pair of indices below n, the smaller one first -/
def PrP (n : Nat) (r : List Int) : Prop := r.length = 2 ∧ (0 ≤ ix r 0 ∧ ix r 0 < ix r 1) ∧ ix r 1 < n
open Classical in
noncomputable def prB (n : Nat) (r : List Int) : Bool := decide (PrP n r)
theorem prB_true {n : Nat} {r : List Int} : prB n r = true ↔ PrP n r := by simp [prB]
theorem prB_not {n : Nat} {r : List Int} (h : ¬ PrP n r) : prB n r = false := by simp [prB, h]
def PrsP (n : Nat) (ps : List (List Int)) : Prop := ps.length ≤ 20 ∧ ∀ k, k < ps.length → PrP n (rowAt ps k)
open Classical in
noncomputable def prsB (n : Nat) (ps : List (List Int)) : Bool := decide (PrsP n ps)
theorem prsB_true {n : Nat} {ps : List (List Int)} : prsB n ps = true ↔ PrsP n ps := by simp [prsB]
theorem prsB_not {n : Nat} {ps : List (List Int)} (h : ¬ PrsP n ps) : prsB n ps = false := by simp [prsB, h]

set_option maxRecDepth 100000 in
set_option maxHeartbeats 1600000 in
theorem swPairs_b (b : Bool) (v : Value) (ps : List (List Int)) (n : Nat) (w : World) (hb : prsB n ps = b) (h : Grid w v ps) (hn : n ≤ 9223372036854775807) :
    Calls Try.prog 76 #[v, .int .i64 n] w fun e w' => e = .returned (.bool b) ∧ Drew w w' := by
  subst hb
  obtain ⟨ao, cap, rfl, h1, h2, h3⟩ := h
  have G := Lib.hid h3; clear h3
  have hw1 : IntKind.i64.wrap ((n : Int) - 1) = (n : Int) - 1 := IntWalk.i64_in _ (by omega)
  go_enter Try.func76, Try.ntmps76
  go_wp2
  go_loopw [9] (fun i wr => ∃ k : Nat, k ≤ ps.length ∧ i = .int .i64 k ∧ (∀ j, j < k → PrP n (rowAt ps j)) ∧ Drew w wr) (fun i _ => ps.length - (intOf i).toNat)
  case atStart => exact ⟨0, Nat.zero_le _, rfl, (fun j hj => by omega), Drew.refl w⟩
  case round =>
    obtain ⟨k, hk, rfl, hj, hdw⟩ := hrel
    obtain ⟨wo, rfl⟩ : ∃ wo : World, wo = wr := ⟨_, rfl⟩
    have HDW := Lib.hid hdw; clear hdw
    have HJ := Lib.hid hj; clear hj
    by_cases hlt : k < ps.length
    · obtain ⟨b1, o1, ar, cr, rfl, hc, r1, r2, r3⟩ := (G.out.ext HDW.out.ext).at_ hlt
      have HB0 : Hid (¬ PrP n (rowAt ps k) → prsB n ps = false) := Lib.hid (fun h => prsB_not (fun q => h (q.2 k hlt)))
      have HPP : Hid (PrP n (rowAt ps k) ↔ (rowAt ps k).length = 2 ∧ (0 ≤ ix (rowAt ps k) 0 ∧ ix (rowAt ps k) 0 < ix (rowAt ps k) 1) ∧ ix (rowAt ps k) 1 < n) := Lib.hid Iff.rfl
      have R3 := Lib.hid r3; clear r3
      obtain ⟨r, hr⟩ : ∃ r, rowAt ps k = r := ⟨_, rfl⟩
      rw [hr] at hc r1 R3 HB0 HPP
      have HR := Lib.hid hr; clear hr
      obtain ⟨N, hN⟩ : ∃ N, r.length = N := ⟨_, rfl⟩
      rw [hN] at hc r1 HPP
      have HN := Lib.hid hN; clear hN
      by_cases h2' : N = 2
      · subst h2'
        obtain ⟨bx, ox, rfl, hx0⟩ := R3.out 0 (by rw [HN.out]; omega)
        obtain ⟨by', oy, e', hx1⟩ := R3.out 1 (by rw [HN.out]; omega)
        simp only [Option.some.injEq, Addr.mk.injEq, and_true] at e'
        obtain ⟨rfl, rfl⟩ := e'
        rw [Nat.add_zero] at hx0
        obtain ⟨p0, hp0⟩ : ∃ p, ix r 0 = p := ⟨_, rfl⟩
        obtain ⟨p1, hp1⟩ : ∃ p, ix r 1 = p := ⟨_, rfl⟩
        rw [hp0] at hx0 HPP
        rw [hp1] at hx1 HPP
        clear hp0 hp1
        by_cases h0 : 0 ≤ p0 ∧ p0 ≤ (n : Int) - 1
        · have hd : (decide ((0 : Int) ≤ p0) && decide (p0 ≤ (n : Int) - 1)) = true := by simp; omega
          have HD := Lib.hid hd; clear hd
          have hw2 : IntKind.i64.wrap (p0 + 1) = p0 + 1 := IntWalk.i64_in _ (by omega)
          by_cases h9 : p0 + 1 ≤ p1 ∧ p1 ≤ (n : Int) - 1
          · have hd : (decide (p0 + 1 ≤ p1) && decide (p1 ≤ (n : Int) - 1)) = true := by simp; omega
            have HD2 := Lib.hid hd; clear hd
            have HJ2 : Hid (∀ j, j < k + 1 → PrP n (rowAt ps j)) := Lib.hid (fun j hj => by
              by_cases e : j = k
              · subst e; rw [HR.out]; exact HPP.out.2 ⟨rfl, by omega, by omega⟩
              · exact HJ.out j (by omega))
            go_wp2_with fail
            go_quiet ((first | (go_at_call 92; with_reducible exact Calls.quiet_of_same (l1In_b true p1 (p0 + 1) ((n : Int) - 1) _ HD2.out)) | (go_at_call 92; exact Calls.quiet_of_same (l1In_b true p0 0 ((n : Int) - 1) _ HD.out))))
            go_wp2
            go_roundw
            case rel => exact ⟨k + 1, by omega, by go_num, HJ2.out, HDW.out.drewN nq⟩
            case measure => simp [intOf]; omega
          · have hd : (decide (p0 + 1 ≤ p1) && decide (p1 ≤ (n : Int) - 1)) = false := by
              apply Bool.eq_false_iff.2; intro e; simp at e; omega
            have HD2 := Lib.hid hd; clear hd
            have HB := Lib.hid (HB0.out (fun h => by have := HPP.out.1 h; omega))
            go_wp2_with fail
            go_quiet ((first | (go_at_call 92; with_reducible exact Calls.quiet_of_same (l1In_b false p1 (p0 + 1) ((n : Int) - 1) _ HD2.out)) | (go_at_call 92; exact Calls.quiet_of_same (l1In_b true p0 0 ((n : Int) - 1) _ HD.out))))
            go_wp2
            go_ret
            exact ⟨ret_bool HB.out.symm, HDW.out.drewN nq⟩
        · have hd : (decide ((0 : Int) ≤ p0) && decide (p0 ≤ (n : Int) - 1)) = false := by
            apply Bool.eq_false_iff.2; intro e; simp at e; omega
          have HD := Lib.hid hd; clear hd
          have HB := Lib.hid (HB0.out (fun h => by have := HPP.out.1 h; omega))
          go_wp2_with fail
          go_quiet ((go_at_call 92; exact Calls.quiet_of_same (l1In_b false p0 0 ((n : Int) - 1) _ HD.out)))
          go_wp2
          go_ret
          exact ⟨ret_bool HB.out.symm, HDW.out.drewN nq⟩
      · have hne : ((N : Int) != 2) = true := by simp; omega
        have HB := Lib.hid (HB0.out (fun h => h2' (HPP.out.1 h).1))
        clear h2'
        go_wp2_with fail
        go_quiet (fail)
        go_wp2
        go_ret
        exact ⟨ret_bool HB.out.symm, HDW.out.drewN nq⟩
    · have HB : Hid (prsB n ps = decide ((ps.length : Int) ≤ 20)) := Lib.hid (by
        by_cases h : ps.length ≤ 20
        · rw [prsB_true.2 ⟨h, fun j hj => HJ.out j (by omega)⟩]; symm; simp; omega
        · rw [prsB_not (fun q => h q.1)]; symm; simp; omega)
      go_wp2
      go_ret
      exact ⟨ret_bool (by rw [HB.out]), HDW.out⟩
set_option maxRecDepth 100000 in
set_option maxHeartbeats 1600000 in
theorem isPair_b (b : Bool) (v : Value) (r : List Int) (n : Nat) (w : World) (hb : prB n r = b) (h : Ints w v r) :
    Calls Try.prog 79 #[v, .int .i64 n] w fun e w' => e = .returned (.bool b) ∧ ∃ m, w' = w.drewN m := by
  subst hb
  obtain ⟨ao, cap, rfl, h1, h2, h3⟩ := h
  have R3 := Lib.hid h3; clear h3
  have HB0 : Hid (¬ PrP n r → prB n r = false) := Lib.hid prB_not
  have HB1 : Hid (PrP n r → prB n r = true) := Lib.hid prB_true.2
  have HPP : Hid (PrP n r ↔ r.length = 2 ∧ (0 ≤ ix r 0 ∧ ix r 0 < ix r 1) ∧ ix r 1 < n) := Lib.hid Iff.rfl
  obtain ⟨N, hN⟩ : ∃ N, r.length = N := ⟨_, rfl⟩
  rw [hN] at h1 HPP ⊢
  have HN := Lib.hid hN; clear hN
  by_cases h2' : N = 2
  · subst h2'
    obtain ⟨bx, ox, rfl, hx0⟩ := R3.out 0 (by rw [HN.out]; omega)
    obtain ⟨by', oy, e', hx1⟩ := R3.out 1 (by rw [HN.out]; omega)
    simp only [Option.some.injEq, Addr.mk.injEq, and_true] at e'
    obtain ⟨rfl, rfl⟩ := e'
    rw [Nat.add_zero] at hx0
    obtain ⟨p0, hp0⟩ : ∃ p, ix r 0 = p := ⟨_, rfl⟩
    obtain ⟨p1, hp1⟩ : ∃ p, ix r 1 = p := ⟨_, rfl⟩
    rw [hp0] at hx0 HPP
    rw [hp1] at hx1 HPP
    clear hp0 hp1
    by_cases h0 : 0 ≤ p0
    · have q0 : decide (0 ≤ p0) = true := by simp [h0]
      by_cases h01 : p0 < p1
      · have q1 : decide (p0 < p1) = true := by simp [h01]
        by_cases h9 : p1 < n
        · have HB := Lib.hid (HB1.out (HPP.out.2 ⟨rfl, ⟨h0, h01⟩, h9⟩))
          go_enter Try.func79, Try.ntmps79
          go_wp2_with fail
          go_quiet (fail)
          go_wp2
          go_ret
          first | exact ⟨ret_bool HB.out.symm, nq, rfl⟩ | exact ⟨ret_bool (by rw [HB.out]; simp [h9]), nq, rfl⟩
        · have q2 : decide (p1 < n) = false := by simp; omega
          have HB := Lib.hid (HB0.out (fun h => h9 (HPP.out.1 h).2.2))
          go_enter Try.func79, Try.ntmps79
          go_wp2_with fail
          go_quiet (fail)
          go_wp2
          go_ret
          first | exact ⟨ret_bool HB.out.symm, nq, rfl⟩ | exact ⟨ret_bool (by rw [HB.out]; simp [h9]), nq, rfl⟩
      · have q1 : decide (p0 < p1) = false := by simp; omega
        have HB := Lib.hid (HB0.out (fun h => h01 (HPP.out.1 h).2.1.2))
        go_enter Try.func79, Try.ntmps79
        go_wp2_with fail
        go_quiet (fail)
        go_wp2
        go_ret
        exact ⟨ret_bool HB.out.symm, nq, rfl⟩
    · have q0 : decide (0 ≤ p0) = false := by simp; omega
      have HB := Lib.hid (HB0.out (fun h => h0 (HPP.out.1 h).2.1.1))
      go_enter Try.func79, Try.ntmps79
      go_wp2_with fail
      go_quiet (fail)
      go_wp2
      go_ret
      exact ⟨ret_bool HB.out.symm, nq, rfl⟩
  · have hne : ((N : Int) == 2) = false := by simp; omega
    have HB := Lib.hid (HB0.out (fun h => h2' (HPP.out.1 h).1))
    clear h2'
    go_enter Try.func79, Try.ntmps79
    go_wp2_with fail
    go_quiet (fail)
    go_wp2
    go_ret
    exact ⟨ret_bool HB.out.symm, nq, rfl⟩
set_option maxHeartbeats 800000 in
theorem arePairs_b (b : Bool) (v : Value) (ps : List (List Int)) (n : Nat) (w : World) (hb : prsB n ps = b) (h : Grid w v ps) :
    Calls Try.prog 83 #[v, .int .i64 n] w fun e w' => e = .returned (.bool b) ∧ ∃ m, w' = w.drewN m := by
  subst hb
  obtain ⟨ao, cap, rfl, h1, h2, h3⟩ := h
  have G := Lib.hid h3; clear h3
  by_cases h20 : 20 < ps.length
  · have HB := Lib.hid (prsB_not (n := n) (ps := ps) (fun h => by have := h.1; omega))
    go_enter Try.func83, Try.ntmps83
    go_wp2
    go_ret
    exact ⟨ret_bool HB.out.symm, 0, rfl⟩
  go_enter Try.func83, Try.ntmps83
  go_wp2
  go_loopw [12] (fun i wr => ∃ k : Nat, k ≤ ps.length ∧ i = .int .i64 k ∧ (∀ j, j < k → PrP n (rowAt ps j)) ∧ ∃ m, wr = w.drewN m) (fun i _ => ps.length - (intOf i).toNat)
  case atStart => exact ⟨0, Nat.zero_le _, rfl, (fun j hj => by omega), 0, rfl⟩
  case round =>
    obtain ⟨k, hk, rfl, hj, m, rfl⟩ := hrel
    have HJ := Lib.hid hj; clear hj
    by_cases hlt : k < ps.length
    · obtain ⟨b1, o1, ar, cr, rfl, hc, r1, r2, r3⟩ := G.out.at_ hlt
      have HI : Hid (Ints w (.slice ar (rowAt ps k).length cr) (rowAt ps k)) := Lib.hid ⟨ar, cr, rfl, r1, r2, r3⟩
      clear r3
      cases hp : prB n (rowAt ps k)
      · have HP := Lib.hid hp
        have HB : Hid (prsB n ps = false) := Lib.hid (prsB_not (fun q => by have := prB_true.2 (q.2 k hlt); rw [hp] at this; cases this))
        clear hp
        go_wp2_with fail
        refine (isPair_b false _ (rowAt ps k) n _ HP.out (HI.out.drewN m)).mono ?_
        rintro e w1 ⟨rfl, m2, rfl⟩
        go_wp2
        go_ret
        exact ⟨ret_bool HB.out.symm, m + m2, by simp⟩
      · have HP := Lib.hid hp
        have HJ2 : Hid (∀ j, j < k + 1 → PrP n (rowAt ps j)) := Lib.hid (fun j hj => by
          by_cases e : j = k
          · subst e; exact prB_true.1 hp
          · exact HJ.out j (by omega))
        clear hp
        go_wp2_with fail
        refine (isPair_b true _ (rowAt ps k) n _ HP.out (HI.out.drewN m)).mono ?_
        rintro e w1 ⟨rfl, m2, rfl⟩
        go_wp2
        go_roundw
        case rel => exact ⟨k + 1, by omega, by go_num, HJ2.out, m + m2, by simp⟩
        case measure => simp [intOf]; omega
    · have HB : Hid (prsB n ps = true) := Lib.hid (prsB_true.2 ⟨by omega, fun j hj => HJ.out j (by omega)⟩)
      go_wp2
      go_ret
      exact ⟨ret_bool HB.out.symm, m, rfl⟩
end Go.Proofs.Ytkkoidoinbiikaa
