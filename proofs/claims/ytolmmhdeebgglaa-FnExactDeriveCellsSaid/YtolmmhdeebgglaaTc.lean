/- Conditions of tables; valid tables and plans: the spec's and the program's checks. -/
import Derived.Test.YtolmmhdeebgglaaTb
namespace Go.Proofs.Ytolmmhdeebgglaa
open Go.RowKit

/-- all values of a variable, as a set -/
def fullV (lv : Int) : Int := 2 ^ lv.toNat - 1
theorem lev_cases {lv : Int} (h : 2 ≤ lv ∧ lv ≤ 8) : lv = 2 ∨ lv = 3 ∨ lv = 4 ∨ lv = 5 ∨ lv = 6 ∨ lv = 7 ∨ lv = 8 := by omega
theorem fullV_pos {lv : Int} (h : 2 ≤ lv ∧ lv ≤ 8) : 3 ≤ fullV lv ∧ fullV lv ≤ 255 := by
  rcases lev_cases h with rfl | rfl | rfl | rfl | rfl | rfl | rfl <;> decide

set_option maxHeartbeats 800000 in
theorem fullSet_c (nm : ByteArray) (lv : Int) (w : World) (h : 2 ≤ lv ∧ lv ≤ 8) :
    Calls Try.prog 97 #[.agg #[.string nm, .int .i64 lv]] w fun e w' => e = .returned (.int .i64 (fullV lv)) ∧ Ext w w' := by
  have u0 := (Ext.refl w).alloc (.cells #[.string nm, .int .i64 lv] 67)
  have b0 := Box.new w 67 #[.string nm, .int .i64 lv] rfl
  have k1 := b0.cell 1 (by simp)
  rcases lev_cases h with rfl | rfl | rfl | rfl | rfl | rfl | rfl
  all_goals
    clear h
    go_enter Try.func97, Try.ntmps97
    go_wp2
    go_ret
    exact ⟨rfl, u0⟩
set_option maxHeartbeats 800000 in
theorem eFull_c (v : Value) (s : List Vr) (k : Nat) (w : World) (hv : Vrs w v s) (hk : k < s.length) (h : 2 ≤ (vrAt s k).lev ∧ (vrAt s k).lev ≤ 8) :
    Calls Try.prog 84 #[v, .int .i64 k] w fun e w' => e = .returned (.int .i64 (fullV (vrAt s k).lev)) ∧ ∃ m, w' = w.drewN m := by
  obtain ⟨a1, c1, rfl, e1, e2, g1⟩ := hv
  obtain ⟨b1, o1, rfl, hd0, hd1⟩ := g1.at_ hk
  clear hd0 g1
  have hk1 : (k : Int) < (s.length : Int) := by omega
  obtain ⟨lv, hlv'⟩ : ∃ lv, (vrAt s k).lev = lv := ⟨_, rfl⟩
  rw [hlv'] at hd1 h ⊢
  clear hlv'
  rcases lev_cases h with rfl | rfl | rfl | rfl | rfl | rfl | rfl
  all_goals
    clear h
    go_enter Try.func84, Try.ntmps84
    go_wp2
    go_ret
    exact ⟨rfl, 0, rfl⟩

def WhereP (s : List Vr) (cond : List Int) : Prop := cond.length = s.length ∧ ∀ k, k < s.length → 0 ≤ ix cond k ∧ ix cond k ≤ fullV (vrAt s k).lev
open Classical in
noncomputable def whereB (s : List Vr) (cond : List Int) : Bool := decide (WhereP s cond)
theorem whereB_true {s : List Vr} {c : List Int} : whereB s c = true ↔ WhereP s c := by simp [whereB]
theorem whereB_not {s : List Vr} {c : List Int} (h : ¬ WhereP s c) : whereB s c = false := by simp [whereB, h]

set_option maxHeartbeats 3200000 in
theorem uWhere_b (b : Bool) (v1 v2 : Value) (s : List Vr) (xs : List Int) (w : World) (hb : whereB s xs = b) (h1 : Vrs w v1 s) (h2 : Ints w v2 xs) (hl : LevP s) :
    Calls Try.prog 79 #[v1, v2] w fun e w' => e = .returned (.bool b) ∧ Ext w w' := by
  subst hb
  obtain ⟨a1, c1, rfl, e1, e2, g1⟩ := h1
  obtain ⟨a2, c2, rfl, e3, e4, g2⟩ := h2
  have HLV := Lib.hid hl.2
  have h6 := hl.1
  clear hl
  have G1 := Lib.hid g1; clear g1
  have G2 := Lib.hid g2; clear g2
  have hl2 : xs.length ≤ 9223372036854775807 := by omega
  by_cases hl : xs.length = s.length
  · have HL := Lib.hid hl
    have hbb : ((xs.length : Int) != (s.length : Int)) = false := by simp; omega
    clear hl
    go_enter Try.func79, Try.ntmps79
    go_wp2_with fail
    go_loopw [14] (fun i wr => ∃ k : Nat, k ≤ s.length ∧ i = .int .i64 k ∧ (∀ j, j < k → 0 ≤ ix xs j ∧ ix xs j ≤ fullV (vrAt s j).lev) ∧ Ext w wr) (fun i _ => s.length - (intOf i).toNat)
    case atStart => exact ⟨0, Nat.zero_le _, rfl, (fun j hj => by omega), Ext.refl w⟩
    case round =>
      obtain ⟨k, hk, rfl, hj, hx⟩ := hrel
      obtain ⟨wo, rfl⟩ : ∃ wo : World, wo = wr := ⟨_, rfl⟩
      have HJ := Lib.hid hj; clear hj
      by_cases hlt : k < s.length
      · have hlt2 : k < xs.length := by rw [HL.out]; exact hlt
        obtain ⟨b1, o1, rfl, hc0, hc1⟩ := (G1.out.ext hx).at_ hlt
        obtain ⟨b2, o2, rfl, hc2'⟩ := G2.out k hlt2
        have hc2 := Ext.cell (hx.alloc (.cells #[.string (vrAt s k).name, .int .i64 (vrAt s k).lev] 67)) hc2'
        have hc3 := Ext.cell hx hc2'
        clear hc2'
        have hlb := HLV.out k hlt
        have HVP : Hid ((0 ≤ ix xs k ∧ ix xs k ≤ fullV (vrAt s k).lev) ↔ 0 ≤ ix xs k ∧ ix xs k ≤ fullV (vrAt s k).lev) := Lib.hid Iff.rfl
        have HNB : Hid (¬ (0 ≤ ix xs k ∧ ix xs k ≤ fullV (vrAt s k).lev) → whereB s xs = false) := Lib.hid (fun h => whereB_not (fun hp => h (hp.2 k hlt)))
        have HNX : Hid ((0 ≤ ix xs k ∧ ix xs k ≤ fullV (vrAt s k).lev) → ∀ j, j < k + 1 → 0 ≤ ix xs j ∧ ix xs j ≤ fullV (vrAt s j).lev) := Lib.hid (fun h j hj => by
          by_cases e : j = k
          · subst e; exact h
          · exact HJ.out j (by omega))
        obtain ⟨nm, hnm⟩ : ∃ nm, (vrAt s k).name = nm := ⟨_, rfl⟩
        obtain ⟨lv, hlv⟩ : ∃ lv, (vrAt s k).lev = lv := ⟨_, rfl⟩
        obtain ⟨x, hxx⟩ : ∃ x, ix xs k = x := ⟨_, rfl⟩
        rw [hnm] at hc0 hc2
        rw [hlv] at hc1 hc2 hlb HVP HNB HNX
        rw [hxx] at hc2 hc3 HVP HNB HNX
        clear hnm hlv hxx
        have hk0 : (0 : Int) ≤ (k : Int) := by omega
        have hk1 : (k : Int) < (xs.length : Int) := by omega
        have hk2 : (k : Int) < (s.length : Int) := by omega
        have bx := Box.new wo 67 #[.string nm, .int .i64 lv] rfl
        have k1 := bx.cell 1 (by simp)
        clear hc3
        by_cases hin : 0 ≤ x ∧ x ≤ fullV lv
        · have hd : (decide ((0 : Int) ≤ x) && decide (x ≤ fullV lv)) = true := by simp; omega
          have HD := Lib.hid hd; clear hd
          have HJ2 := Lib.hid (HNX.out hin)
          clear hin HNX HNB HVP
          rcases lev_cases hlb with rfl | rfl | rfl | rfl | rfl | rfl | rfl
          all_goals
            clear hlb
            go_wp2_with fail
            go_quiet ((go_at_call 80; exact Calls.quiet_of_same (l1In_b true x 0 _ _ HD.out)))
            go_wp2
            go_roundw
            case rel => exact ⟨k + 1, by omega, by go_num, HJ2.out, (hx.alloc _).drewN _⟩
            case measure => simp [intOf]; omega
        · have hd : (decide ((0 : Int) ≤ x) && decide (x ≤ fullV lv)) = false := by
            rw [Bool.and_eq_false_iff]; simp only [decide_eq_false_iff_not]; omega
          have HD := Lib.hid hd; clear hd
          have HB := Lib.hid (HNB.out hin)
          clear hin HNX HNB HVP
          rcases lev_cases hlb with rfl | rfl | rfl | rfl | rfl | rfl | rfl
          all_goals
            clear hlb
            go_wp2_with fail
            go_quiet ((go_at_call 80; exact Calls.quiet_of_same (l1In_b false x 0 _ _ HD.out)))
            go_wp2
            go_ret
            exact ⟨ret_bool HB.out.symm, (hx.alloc _).drewN _⟩
      · have HB : Hid (whereB s xs = true) := Lib.hid (whereB_true.2 ⟨HL.out, fun j hj => HJ.out j (by omega)⟩)
        have hl := HL.out
        have hlt3 : ¬ (k : Int) < (xs.length : Int) := by omega
        clear hl
        go_wp2
        go_ret
        exact ⟨ret_bool HB.out.symm, hx⟩
  · have hbb : ((xs.length : Int) != (s.length : Int)) = true := by simp; omega
    have HB : Hid (whereB s xs = false) := Lib.hid (whereB_not (fun h => hl h.1))
    go_enter Try.func79, Try.ntmps79
    go_wp2
    go_ret
    exact ⟨ret_bool HB.out.symm, Ext.refl w⟩
set_option maxHeartbeats 3200000 in
theorem isWhere_b (b : Bool) (v1 v2 : Value) (s : List Vr) (xs : List Int) (w : World) (hb : whereB s xs = b) (h1 : Vrs w v1 s) (h2 : Ints w v2 xs) (hl : LevP s) :
    Calls Try.prog 86 #[v1, v2] w fun e w' => e = .returned (.bool b) ∧ Ext w w' := by
  subst hb
  obtain ⟨a1, c1, rfl, e1, e2, g1⟩ := h1
  obtain ⟨a2, c2, rfl, e3, e4, g2⟩ := h2
  have HLV := Lib.hid hl.2
  have h6 := hl.1
  clear hl
  have G1 := Lib.hid g1; clear g1
  have G2 := Lib.hid g2; clear g2
  have hl2 : xs.length ≤ 9223372036854775807 := by omega
  by_cases hl : xs.length = s.length
  · have HL := Lib.hid hl
    have hbb : ((xs.length : Int) != (s.length : Int)) = false := by simp; omega
    clear hl
    go_enter Try.func86, Try.ntmps86
    go_wp2_with fail
    go_loopw [14] (fun i wr => ∃ k : Nat, k ≤ s.length ∧ i = .int .i64 k ∧ (∀ j, j < k → 0 ≤ ix xs j ∧ ix xs j ≤ fullV (vrAt s j).lev) ∧ Ext w wr) (fun i _ => s.length - (intOf i).toNat)
    case atStart => exact ⟨0, Nat.zero_le _, rfl, (fun j hj => by omega), Ext.refl w⟩
    case round =>
      obtain ⟨k, hk, rfl, hj, hx⟩ := hrel
      obtain ⟨wo, rfl⟩ : ∃ wo : World, wo = wr := ⟨_, rfl⟩
      have HJ := Lib.hid hj; clear hj
      by_cases hlt : k < s.length
      · have hlt2 : k < xs.length := by rw [HL.out]; exact hlt
        obtain ⟨b1, o1, rfl, hc0, hc1⟩ := (G1.out.ext hx).at_ hlt
        obtain ⟨b2, o2, rfl, hc2'⟩ := G2.out k hlt2
        have hc2 := Ext.cell (hx.alloc (.cells #[.string (vrAt s k).name, .int .i64 (vrAt s k).lev] 67)) hc2'
        have hc3 := Ext.cell hx hc2'
        clear hc2'
        have hlb := HLV.out k hlt
        have HVP : Hid ((0 ≤ ix xs k ∧ ix xs k ≤ fullV (vrAt s k).lev) ↔ 0 ≤ ix xs k ∧ ix xs k ≤ fullV (vrAt s k).lev) := Lib.hid Iff.rfl
        have HNB : Hid (¬ (0 ≤ ix xs k ∧ ix xs k ≤ fullV (vrAt s k).lev) → whereB s xs = false) := Lib.hid (fun h => whereB_not (fun hp => h (hp.2 k hlt)))
        have HNX : Hid ((0 ≤ ix xs k ∧ ix xs k ≤ fullV (vrAt s k).lev) → ∀ j, j < k + 1 → 0 ≤ ix xs j ∧ ix xs j ≤ fullV (vrAt s j).lev) := Lib.hid (fun h j hj => by
          by_cases e : j = k
          · subst e; exact h
          · exact HJ.out j (by omega))
        obtain ⟨nm, hnm⟩ : ∃ nm, (vrAt s k).name = nm := ⟨_, rfl⟩
        obtain ⟨lv, hlv⟩ : ∃ lv, (vrAt s k).lev = lv := ⟨_, rfl⟩
        obtain ⟨x, hxx⟩ : ∃ x, ix xs k = x := ⟨_, rfl⟩
        rw [hnm] at hc0 hc2
        rw [hlv] at hc1 hc2 hlb HVP HNB HNX
        rw [hxx] at hc2 hc3 HVP HNB HNX
        clear hnm hlv hxx
        have hk0 : (0 : Int) ≤ (k : Int) := by omega
        have hk1 : (k : Int) < (xs.length : Int) := by omega
        have hk2 : (k : Int) < (s.length : Int) := by omega
        clear hc2
        obtain ⟨F, hF⟩ : ∃ F, fullV lv = F := ⟨_, rfl⟩
        rw [hF] at HVP HNB HNX
        have HFF := Lib.hid hF; clear hF
        by_cases h0 : x < 0
        · have HB := Lib.hid (HNB.out (fun h => by omega))
          go_wp2
          go_ret
          exact ⟨ret_bool HB.out.symm, hx⟩
        · by_cases h1 : F < x
          · have HB := Lib.hid (HNB.out (fun h => by omega))
            go_wp2_with fail
            refine (fullSet_c nm lv _ hlb).mono ?_
            rw [HFF.out]
            rintro e w1 ⟨rfl, u1⟩
            go_wp2
            go_ret
            exact ⟨ret_bool HB.out.symm, hx.trans u1⟩
          · have HJ2 := Lib.hid (HNX.out ⟨by omega, by omega⟩)
            go_wp2_with fail
            refine (fullSet_c nm lv _ hlb).mono ?_
            rw [HFF.out]
            rintro e w1 ⟨rfl, u1⟩
            go_wp2
            go_roundw
            case rel => exact ⟨k + 1, by omega, by go_num, HJ2.out, hx.trans u1⟩
            case measure => simp [intOf]; omega
      · have HB : Hid (whereB s xs = true) := Lib.hid (whereB_true.2 ⟨HL.out, fun j hj => HJ.out j (by omega)⟩)
        have hl := HL.out
        have hlt3 : ¬ (k : Int) < (xs.length : Int) := by omega
        clear hl
        go_wp2
        go_ret
        exact ⟨ret_bool HB.out.symm, hx⟩
  · have hbb : ((xs.length : Int) != (s.length : Int)) = true := by simp; omega
    have HB : Hid (whereB s xs = false) := Lib.hid (whereB_not (fun h => hl h.1))
    go_enter Try.func86, Try.ntmps86
    go_wp2
    go_ret
    exact ⟨ret_bool HB.out.symm, Ext.refl w⟩
set_option maxHeartbeats 800000 in
theorem areVars_b (b : Bool) (v1 v2 : Value) (s : List Vr) (xs : List Int) (w : World) (hb : risingB (s.length : Int) xs = b) (h1 : Vrs w v1 s) (h2 : Ints w v2 xs) :
    Calls Try.prog 85 #[v1, v2] w fun e w' => e = .returned (.bool b) ∧ w' = w := by
  subst hb
  obtain ⟨a1, c1, rfl, e1, e2, g1⟩ := h1
  clear g1
  obtain ⟨a2, c2, rfl, e3, e4, g2⟩ := h2
  have G2 := Lib.hid g2; clear g2
  have hl1 : s.length ≤ 9223372036854775807 := by omega
  go_enter Try.func85, Try.ntmps85
  go_wp2_with fail
  go_loop [5, 10] (fun l i => ∃ (k : Nat) (L : Int), k ≤ xs.length ∧ i = .int .i64 k ∧ l = .int .i64 L ∧ -1 ≤ L ∧ Hid (k = 0 → L = -1) ∧ Hid (0 < k → L = ix xs (k - 1)) ∧ ∀ j, j < k → (0 ≤ ix xs j ∧ ix xs j < s.length) ∧ (0 < j → ix xs (j - 1) < ix xs j)) (fun _ i => xs.length - (intOf i).toNat)
  case atStart => exact ⟨0, -1, Nat.zero_le _, rfl, rfl, by omega, Lib.hid (fun _ => rfl), Lib.hid (fun h => by omega), fun j hj => by omega⟩
  case round =>
    obtain ⟨k, L, hk, rfl, rfl, hL, H0, H1, hj⟩ := hrel
    have HJ := Lib.hid hj; clear hj
    by_cases hlt : k < xs.length
    · obtain ⟨b, o, rfl, hc⟩ := G2.out k hlt
      have HNB : Hid (¬ (L < ix xs k ∧ ix xs k < s.length) → risingB (s.length : Int) xs = false) := Lib.hid (fun h => risingB_false (fun hr => h ⟨by
        rcases Nat.eq_zero_or_pos k with e | e
        · rw [H0.out e]; have := (hr k hlt).1.1; omega
        · rw [H1.out e]; exact (hr k hlt).2 e, (hr k hlt).1.2⟩))
      have HNX : Hid ((L < ix xs k ∧ ix xs k < s.length) → (Hid (k + 1 = 0 → ix xs k = -1) ∧ Hid (0 < k + 1 → ix xs k = ix xs (k + 1 - 1)) ∧ ∀ j, j < k + 1 → (0 ≤ ix xs j ∧ ix xs j < s.length) ∧ (0 < j → ix xs (j - 1) < ix xs j))) := Lib.hid (fun h => ⟨Lib.hid (fun h => by omega), Lib.hid (fun _ => by rw [Nat.add_sub_cancel]), fun j hj => by
        by_cases e : j = k
        · subst e; exact ⟨⟨by omega, h.2⟩, fun hp => by rw [← H1.out hp]; exact h.1⟩
        · exact HJ.out j (by omega)⟩)
      obtain ⟨x, hx⟩ : ∃ x, ix xs k = x := ⟨_, rfl⟩
      rw [hx] at hc HNB HNX
      clear hx H0 H1
      by_cases h0 : x ≤ L
      · have HB := Lib.hid (HNB.out (fun h => by omega))
        go_wp2
        go_ret
        exact ⟨ret_bool HB.out.symm, rfl⟩
      · by_cases h1 : (s.length : Int) ≤ x
        · have HB := Lib.hid (HNB.out (fun h => by omega))
          go_wp2
          go_ret
          exact ⟨ret_bool HB.out.symm, rfl⟩
        · have HX := Lib.hid (HNX.out ⟨by omega, by omega⟩)
          go_wp2
          go_round
          case rel => exact ⟨k + 1, x, by omega, by go_num, rfl, by omega, HX.out⟩
          case measure => simp [intOf]; omega
    · have HB : Hid (risingB (s.length : Int) xs = true) := Lib.hid (risingB_true.2 (fun j hj => HJ.out j (by omega)))
      go_wp2
      go_ret
      exact ⟨ret_bool HB.out.symm, rfl⟩
end Go.Proofs.Ytolmmhdeebgglaa
