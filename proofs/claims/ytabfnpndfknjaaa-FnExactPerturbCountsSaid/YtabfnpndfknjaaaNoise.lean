/- Noise tables: the spec's and the program's tests, rows and elements. -/
import Derived.Test.YtabfnpndfknjaaaGrid
import Derived.Test.YtabfnpndfknjaaaNtLaw
namespace Go.Proofs.Ytabfnpndfknjaaa
open Go.RowKit

/-- row number k of a noise table is as it should be -/
def ntRow (k : Nat) (r : List Int) : Prop := r.length = 16 ∧ (∀ j, j < r.length → -5 ≤ ix r j ∧ ix r j ≤ 5 ∧ -(k : Int) ≤ ix r j ∧ (k = 0 → ix r j = 0))
def ntOk (xss : List (List Int)) : Prop := 1 ≤ xss.length ∧ xss.length ≤ 20 ∧ ∀ k, k < xss.length → ntRow k (rowAt xss k)
open Classical in
noncomputable def ntB (xss : List (List Int)) : Bool := decide (ntOk xss)
theorem ntB_true {xss : List (List Int)} : ntB xss = true ↔ ntOk xss := by simp [ntB]
theorem ntB_false {xss : List (List Int)} (h : ¬ ntOk xss) : ntB xss = false := by simp [ntB, h]
theorem ntRow_iff {k : Nat} {r : List Int} : ntRow k r ↔ r.length = 16 ∧ allIn (imax (-(k : Int)) (-5)) 5 r = true ∧ (k = 0 → allIn 0 0 r = true) := by
  constructor
  · rintro ⟨h1, h2⟩
    refine ⟨h1, allIn_of (fun j hj => ?_), fun hk => allIn_of (fun j hj => ?_)⟩
    · have := h2 j hj; have := imax_cases (-(k : Int)) (-5); omega
    · have := (h2 j hj).2.2.2 hk; omega
  · rintro ⟨h1, h2, h3⟩
    refine ⟨h1, fun j hj => ?_⟩
    have a := allIn_true h2 hj
    have := imax_cases (-(k : Int)) (-5)
    refine ⟨by omega, by omega, by omega, fun hk => ?_⟩
    have b := allIn_true (h3 hk) hj; omega

set_option maxHeartbeats 800000 in
theorem yGood_b (b : Bool) (v : Value) (xss : List (List Int)) (w : World) (hb : ntB xss = b) (h : Grid w v xss) :
    Calls Try.prog 54 #[.agg #[v]] w fun e w' => e = .returned (.bool b) ∧ Ext w w' := by
  subst hb
  obtain ⟨ao, cap, rfl, h1, h2, h3⟩ := h
  have G := Lib.hid h3; clear h3
  have u0 := (Ext.refl w).alloc (.cells #[.slice ao xss.length cap] 46)
  by_cases hn : 1 ≤ xss.length ∧ xss.length ≤ 20
  · have d1 : (decide ((1 : Int) ≤ (xss.length : Int)) && decide ((xss.length : Int) ≤ 20)) = true := by simp; omega
    have D1 := Lib.hid d1; clear d1
    go_enter Try.func54, Try.ntmps54
    go_wp2_with fail
    refine (l1In_b true (xss.length : Int) 1 20 _ D1.out).mono ?_
    rintro e w' ⟨rfl, rfl⟩
    go_wp2_with fail
    go_loop [13] (fun i => ∃ k : Nat, k ≤ xss.length ∧ i = .int .i64 k ∧ ∀ j, j < k → ntRow j (rowAt xss j)) (fun i => xss.length - (intOf i).toNat)
    case atStart => exact ⟨0, Nat.zero_le _, rfl, fun j hj => by omega⟩
    case round =>
      obtain ⟨k, hk, rfl, hj⟩ := hrel
      have HJ := Lib.hid hj; clear hj
      by_cases hlt : k < xss.length
      · obtain ⟨b', o', ar, cr, rfl, hc, r1, r2, r3⟩ := (G.out.ext u0).at_ hlt
        have R3 := Lib.hid r3; clear r3
        by_cases hl : (rowAt xss k).length = 16
        · have hb2 : (((rowAt xss k).length : Int) != 16) = false := by simp [hl]
          have HL := Lib.hid hl; clear hl
          cases ha : allIn (imax (-(k : Int)) (-5)) 5 (rowAt xss k)
          · have hr := Lib.hid (ntB_false (xss := xss) (fun hh => by have := (ntRow_iff.1 (hh.2.2 k hlt)).2.1; rw [ha] at this; cases this))
            have HA := Lib.hid ha; clear ha
            go_wp2_with fail
            refine (l1Most_c (-(k : Int)) (-5) _).mono ?_
            rintro e w' ⟨rfl, rfl⟩
            go_wp2_with fail
            refine (l1All_b false _ (rowAt xss k) _ _ _ HA.out ⟨ar, cr, rfl, r1, r2, R3.out⟩).mono ?_
            rintro e w' ⟨rfl, rfl⟩
            go_wp2
            go_ret
            exact ⟨ret_bool hr.out.symm, u0⟩
          · have HA := Lib.hid ha; clear ha
            by_cases hk0 : k = 0
            · have hk0b : ((k : Int) == 0) = true := by simp [hk0]
              cases hz : allIn 0 0 (rowAt xss k)
              · have hr := Lib.hid (ntB_false (xss := xss) (fun hh => by have := (ntRow_iff.1 (hh.2.2 k hlt)).2.2 hk0; rw [hz] at this; cases this))
                have HZ := Lib.hid hz; clear hz
                have HK := Lib.hid hk0; clear hk0
                go_wp2_with fail
                refine (l1Most_c (-(k : Int)) (-5) _).mono ?_
                rintro e w' ⟨rfl, rfl⟩
                go_wp2_with fail
                refine (l1All_b true _ (rowAt xss k) _ _ _ HA.out ⟨ar, cr, rfl, r1, r2, R3.out⟩).mono ?_
                rintro e w' ⟨rfl, rfl⟩
                go_wp2_with fail
                refine (l1All_b false _ (rowAt xss k) _ _ _ HZ.out ⟨ar, cr, rfl, r1, r2, R3.out⟩).mono ?_
                rintro e w' ⟨rfl, rfl⟩
                go_wp2
                go_ret
                exact ⟨ret_bool hr.out.symm, u0⟩
              · have HZ := Lib.hid hz; clear hz
                have HK := Lib.hid hk0; clear hk0
                go_wp2_with fail
                refine (l1Most_c (-(k : Int)) (-5) _).mono ?_
                rintro e w' ⟨rfl, rfl⟩
                go_wp2_with fail
                refine (l1All_b true _ (rowAt xss k) _ _ _ HA.out ⟨ar, cr, rfl, r1, r2, R3.out⟩).mono ?_
                rintro e w' ⟨rfl, rfl⟩
                go_wp2_with fail
                refine (l1All_b true _ (rowAt xss k) _ _ _ HZ.out ⟨ar, cr, rfl, r1, r2, R3.out⟩).mono ?_
                rintro e w' ⟨rfl, rfl⟩
                go_wp2
                go_round
                case rel => exact ⟨k + 1, by omega, by go_num, fun j hj => by
                  by_cases e : j = k
                  · subst e; exact ntRow_iff.2 ⟨HL.out, HA.out, fun _ => HZ.out⟩
                  · exact HJ.out j (by omega)⟩
                case measure => simp [intOf]; omega
            · have hk0b : ((k : Int) == 0) = false := by simp; omega
              have HK := Lib.hid hk0; clear hk0
              go_wp2_with fail
              refine (l1Most_c (-(k : Int)) (-5) _).mono ?_
              rintro e w' ⟨rfl, rfl⟩
              go_wp2_with fail
              refine (l1All_b true _ (rowAt xss k) _ _ _ HA.out ⟨ar, cr, rfl, r1, r2, R3.out⟩).mono ?_
              rintro e w' ⟨rfl, rfl⟩
              go_wp2
              go_round
              case rel => exact ⟨k + 1, by omega, by go_num, fun j hj => by
                by_cases e : j = k
                · subst e; exact ntRow_iff.2 ⟨HL.out, HA.out, fun h0 => absurd h0 HK.out⟩
                · exact HJ.out j (by omega)⟩
              case measure => simp [intOf]; omega
        · have hb2 : (((rowAt xss k).length : Int) != 16) = true := by simp; omega
          have hr := Lib.hid (ntB_false (xss := xss) (fun hh => hl (hh.2.2 k hlt).1))
          have HL := Lib.hid hl; clear hl
          go_wp2
          go_ret
          exact ⟨ret_bool hr.out.symm, u0⟩
      · go_wp2
        go_ret
        exact ⟨ret_bool (ntB_true.2 ⟨hn.1, hn.2, fun j hj => HJ.out j (by omega)⟩).symm, u0⟩
  · have d1 : (decide ((1 : Int) ≤ (xss.length : Int)) && decide ((xss.length : Int) ≤ 20)) = false := by
      rw [Bool.and_eq_false_iff]; simp only [decide_eq_false_iff_not]; omega
    have D1 := Lib.hid d1; clear d1
    have hr := Lib.hid (ntB_false (xss := xss) (fun hh => hn ⟨hh.1, hh.2.1⟩))
    clear hn
    go_enter Try.func54, Try.ntmps54
    go_wp2_with fail
    refine (l1In_b false (xss.length : Int) 1 20 _ D1.out).mono ?_
    rintro e w' ⟨rfl, rfl⟩
    go_wp2
    go_ret
    exact ⟨ret_bool hr.out.symm, u0⟩

set_option maxHeartbeats 1600000 in
theorem implIsNoiseTable_b (b : Bool) (v : Value) (xss : List (List Int)) (w : World) (hb : ntB xss = b) (h : Grid w v xss) :
    Calls Try.prog 60 #[.agg #[v]] w fun e w' => e = .returned (.bool b) ∧ Ext w w' := by
  subst hb
  obtain ⟨ao, cap, rfl, h1, h2, h3⟩ := h
  have G := Lib.hid h3; clear h3
  have u0 := (Ext.refl w).alloc (.cells #[.slice ao xss.length cap] 46)
  by_cases hn1 : xss.length < 1
  · have hr := Lib.hid (ntB_false (xss := xss) (fun hh => by have := hh.1; omega))
    go_enter Try.func60, Try.ntmps60
    go_wp2
    go_ret
    exact ⟨ret_bool hr.out.symm, u0⟩
  by_cases hn2 : 20 < xss.length
  · have hr := Lib.hid (ntB_false (xss := xss) (fun hh => by have := hh.2.1; omega))
    go_enter Try.func60, Try.ntmps60
    go_wp2
    go_ret
    exact ⟨ret_bool hr.out.symm, u0⟩
  go_enter Try.func60, Try.ntmps60
  go_wp2
  go_loop [20] (fun i => ∃ k : Nat, k ≤ xss.length ∧ i = .int .i64 k ∧ ∀ j, j < k → ntRow j (rowAt xss j)) (fun i => xss.length - (intOf i).toNat)
  case atStart => exact ⟨0, Nat.zero_le _, rfl, fun j hj => by omega⟩
  case round =>
    obtain ⟨k, hk, rfl, hj⟩ := hrel
    have HJ := Lib.hid hj; clear hj
    by_cases hlt : k < xss.length
    · obtain ⟨b', o', ar, cr, rfl, hc, r1, r2, r3⟩ := (G.out.ext u0).at_ hlt
      have R3 := Lib.hid r3; clear r3
      by_cases hl : (rowAt xss k).length = 16
      · have hb2 : (((rowAt xss k).length : Int) != 16) = false := by simp [hl]
        have HL := Lib.hid hl; clear hl
        go_wp2
        go_loop [30] (fun i => ∃ j : Nat, j ≤ (rowAt xss k).length ∧ i = .int .i64 j ∧ ∀ l, l < j → -5 ≤ ix (rowAt xss k) l ∧ ix (rowAt xss k) l ≤ 5 ∧ -(k : Int) ≤ ix (rowAt xss k) l ∧ (k = 0 → ix (rowAt xss k) l = 0)) (fun i => (rowAt xss k).length - (intOf i).toNat)
        case atStart => exact ⟨0, Nat.zero_le _, rfl, fun j hj => by omega⟩
        case round =>
          obtain ⟨j, hj, rfl, hl⟩ := hrel
          have HL2 := Lib.hid hl; clear hl
          by_cases hjt : j < (rowAt xss k).length
          · obtain ⟨b2, o2, rfl, hc2⟩ := R3.out j hjt
            by_cases t1 : ix (rowAt xss k) j < -5
            · have hr := Lib.hid (ntB_false (xss := xss) (fun hh => by have := (hh.2.2 k hlt).2 j hjt; omega))
              go_wp2
              go_ret
              exact ⟨ret_bool hr.out.symm, u0⟩
            by_cases t2 : 5 < ix (rowAt xss k) j
            · have hr := Lib.hid (ntB_false (xss := xss) (fun hh => by have := (hh.2.2 k hlt).2 j hjt; omega))
              go_wp2
              go_ret
              exact ⟨ret_bool hr.out.symm, u0⟩
            by_cases t3 : ix (rowAt xss k) j < -(k : Int)
            · have hr := Lib.hid (ntB_false (xss := xss) (fun hh => by have := (hh.2.2 k hlt).2 j hjt; omega))
              go_wp2
              go_ret
              exact ⟨ret_bool hr.out.symm, u0⟩
            by_cases t4 : k = 0
            · have t4b : ((k : Int) == 0) = true := by simp [t4]
              by_cases t5 : ix (rowAt xss k) j = 0
              · have t5b : (ix (rowAt xss k) j != 0) = false := by simp [t5]
                have T4 := Lib.hid t4; clear t4
                have T5 := Lib.hid t5; clear t5
                go_wp2
                go_round
                case rel => exact ⟨j + 1, by omega, by go_num, fun l hl => by
                  by_cases e : l = j
                  · subst e; exact ⟨by omega, by omega, by omega, fun _ => T5.out⟩
                  · exact HL2.out l (by omega)⟩
                case measure => simp [intOf]; omega
              · have t5b : (ix (rowAt xss k) j != 0) = true := by simp [t5]
                have hr := Lib.hid (ntB_false (xss := xss) (fun hh => t5 (((hh.2.2 k hlt).2 j hjt).2.2.2 t4)))
                have T4 := Lib.hid t4; clear t4
                have T5 := Lib.hid t5; clear t5
                go_wp2
                go_ret
                exact ⟨ret_bool hr.out.symm, u0⟩
            · have t4b : ((k : Int) == 0) = false := by simp; omega
              have T4 := Lib.hid t4; clear t4
              go_wp2
              go_round
              case rel => exact ⟨j + 1, by omega, by go_num, fun l hl => by
                by_cases e : l = j
                · subst e; exact ⟨by omega, by omega, by omega, fun h0 => absurd h0 T4.out⟩
                · exact HL2.out l (by omega)⟩
              case measure => simp [intOf]; omega
          · go_wp2
            go_round
            case rel => exact ⟨k + 1, by omega, by go_num, fun j hj => by
              by_cases e : j = k
              · subst e; exact ⟨HL.out, fun l hl => HL2.out l (by omega)⟩
              · exact HJ.out j (by omega)⟩
            case measure => simp [intOf]; omega
      · have hb2 : (((rowAt xss k).length : Int) != 16) = true := by simp; omega
        have hr := Lib.hid (ntB_false (xss := xss) (fun hh => hl (hh.2.2 k hlt).1))
        have HL := Lib.hid hl; clear hl
        go_wp2
        go_ret
        exact ⟨ret_bool hr.out.symm, u0⟩
    · go_wp2
      go_ret
      exact ⟨ret_bool (ntB_true.2 ⟨by omega, by omega, fun j hj => HJ.out j (by omega)⟩).symm, u0⟩
end Go.Proofs.Ytabfnpndfknjaaa
