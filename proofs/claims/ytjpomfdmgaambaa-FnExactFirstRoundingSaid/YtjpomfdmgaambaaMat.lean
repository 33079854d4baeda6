/- Matrices: rows of equally many elements within bounds. -/
import Derived.Test.YtjpomfdmgaambaaGrid
namespace Go.Proofs.Ytjpomfdmgaambaa
open Go.RowKit

theorem matShape {xss : List (List Int)} (hs : shapeB (xss.length : Int) ((rowAt xss 0).length : Int) xss = true) {k : Nat} (hk : k < xss.length) : (rowAt xss k).length = (rowAt xss 0).length := by
  have := (shapeB_true.1 hs).2 k hk; omega

set_option maxHeartbeats 800000 in
theorem oMatrix_c (v : Value) (xss : List (List Int)) (w : World) (h : Grid w v xss) :
    Calls Try.prog 64 #[v] w fun e w' => e = .returned (.bool (gridB 7 10000 xss)) ∧ w' = w := by
  obtain ⟨ao, cap, rfl, h1, h2, h3⟩ := h
  have G := Lib.hid h3; clear h3
  by_cases hn : 1 ≤ xss.length ∧ xss.length ≤ 7
  · have d1 : (decide ((1 : Int) ≤ (xss.length : Int)) && decide ((xss.length : Int) ≤ 7)) = true := by simp; omega
    have D1 := Lib.hid d1; clear d1
    obtain ⟨b, o, ar0, cr0, rfl, hc0, p1, p2, p3⟩ := G.out.at0 (by omega)
    clear p3
    by_cases hm : 1 ≤ (rowAt xss 0).length ∧ (rowAt xss 0).length ≤ 7
    · have d2 : (decide ((1 : Int) ≤ ((rowAt xss 0).length : Int)) && decide (((rowAt xss 0).length : Int) ≤ 7)) = true := by simp; omega
      have D2 := Lib.hid d2; clear d2
      go_enter Try.func64, Try.ntmps64
      go_wp2_with fail
      refine (l1In_b true (xss.length : Int) 1 7 _ D1.out).mono ?_
      rintro e w' ⟨rfl, rfl⟩
      go_wp2_with fail
      refine (l1In_b true ((rowAt xss 0).length : Int) 1 7 _ D2.out).mono ?_
      rintro e w' ⟨rfl, rfl⟩
      go_wp2_with fail
      go_loop [19] (fun i => ∃ k : Nat, k ≤ xss.length ∧ i = .int .i64 k ∧ ∀ j, j < k → (rowAt xss j).length = (rowAt xss 0).length ∧ allIn 0 10000 (rowAt xss j) = true) (fun i => xss.length - (intOf i).toNat)
      case atStart => exact ⟨0, Nat.zero_le _, rfl, fun j hj => by omega⟩
      case round =>
        obtain ⟨k, hk, rfl, hj⟩ := hrel
        have HJ := Lib.hid hj; clear hj
        by_cases hlt : k < xss.length
        · obtain ⟨b', o', ar, cr, he, hc, r1, r2, r3⟩ := G.out.at_ hlt
          simp only [Option.some.injEq, Addr.mk.injEq, and_true] at he
          obtain ⟨rfl, rfl⟩ := he
          have R3 := Lib.hid r3; clear r3
          by_cases hl : (rowAt xss k).length = (rowAt xss 0).length
          · have hb2 : (((rowAt xss k).length : Int) != ((rowAt xss 0).length : Int)) = false := by simp [hl]
            have HL := Lib.hid hl; clear hl
            cases ha : allIn 0 10000 (rowAt xss k)
            · have HA := Lib.hid ha; clear ha
              go_wp2_with (go_at_call 50; refine (l1All_b false _ (rowAt xss k) 0 10000 _ HA.out ⟨ar, cr, rfl, r1, r2, R3.out⟩).mono ?_; rintro e w' ⟨rfl, rfl⟩)
              go_ret
              exact ⟨ret_bool (gridB_false (fun hh => by have := (hh.2.2.2.2 k hlt).2; rw [HA.out] at this; cases this)).symm, rfl⟩
            · have HA := Lib.hid ha; clear ha
              go_wp2_with (go_at_call 50; refine (l1All_b true _ (rowAt xss k) 0 10000 _ HA.out ⟨ar, cr, rfl, r1, r2, R3.out⟩).mono ?_; rintro e w' ⟨rfl, rfl⟩)
              go_round
              case rel => exact ⟨k + 1, by omega, by go_num, fun j hj => by
                by_cases e : j = k
                · subst e; exact ⟨HL.out, HA.out⟩
                · exact HJ.out j (by omega)⟩
              case measure => simp [intOf]; omega
          · have hb2 : (((rowAt xss k).length : Int) != ((rowAt xss 0).length : Int)) = true := by simp; omega
            have HL := Lib.hid hl; clear hl
            go_wp2
            go_ret
            exact ⟨ret_bool (gridB_false (fun hh => HL.out (hh.2.2.2.2 k hlt).1)).symm, rfl⟩
        · go_wp2
          go_ret
          exact ⟨ret_bool (gridB_true.2 ⟨by omega, by omega, by omega, by omega, fun j hj => HJ.out j (by omega)⟩).symm, rfl⟩
    · have d2 : (decide ((1 : Int) ≤ ((rowAt xss 0).length : Int)) && decide (((rowAt xss 0).length : Int) ≤ 7)) = false := by
        rw [Bool.and_eq_false_iff]; simp only [decide_eq_false_iff_not]; omega
      have D2 := Lib.hid d2; clear d2
      have HM := Lib.hid hm; clear hm
      go_enter Try.func64, Try.ntmps64
      go_wp2_with fail
      refine (l1In_b true (xss.length : Int) 1 7 _ D1.out).mono ?_
      rintro e w' ⟨rfl, rfl⟩
      go_wp2_with fail
      refine (l1In_b false ((rowAt xss 0).length : Int) 1 7 _ D2.out).mono ?_
      rintro e w' ⟨rfl, rfl⟩
      go_wp2_with fail
      go_ret
      exact ⟨ret_bool (gridB_false (fun hh => HM.out ⟨hh.2.2.1, hh.2.2.2.1⟩)).symm, rfl⟩
  · have d1 : (decide ((1 : Int) ≤ (xss.length : Int)) && decide ((xss.length : Int) ≤ 7)) = false := by
      rw [Bool.and_eq_false_iff]; simp only [decide_eq_false_iff_not]; omega
    have D1 := Lib.hid d1; clear d1
    have HN := Lib.hid hn; clear hn
    go_enter Try.func64, Try.ntmps64
    go_wp2_with (go_at_call 43; refine (l1In_b false (xss.length : Int) 1 7 _ D1.out).mono ?_; rintro e w' ⟨rfl, rfl⟩)
    go_ret
    exact ⟨ret_bool (gridB_false (fun hh => HN.out ⟨hh.1, hh.2.1⟩)).symm, rfl⟩
theorem oMatrix_b (b : Bool) (v : Value) (xss : List (List Int)) (w : World) (hb : gridB 7 10000 xss = b) (h : Grid w v xss) :
    Calls Try.prog 64 #[v] w fun e w' => e = .returned (.bool b) ∧ w' = w := by
  subst hb; exact oMatrix_c v xss w h
set_option maxHeartbeats 1600000 in
theorem isGridOf_c (v : Value) (xss : List (List Int)) (hi : Int) (w : World) (h : Grid w v xss) :
    Calls Try.prog 68 #[v, .int .i64 hi] w fun e w' => e = .returned (.bool (gridB 9223372036854775807 hi xss)) ∧ w' = w := by
  have HG := Lib.hid h
  obtain ⟨ao, cap, rfl, h1, h2, h3⟩ := h
  have G := Lib.hid h3; clear h3
  have hr0 : (rowAt xss 0).length ≤ 9223372036854775807 := by
    by_cases e : 0 < xss.length
    · obtain ⟨_, _, _, _, _, _, z1, z2, _⟩ := G.out.at_ e; omega
    · rw [rowAt_out (by omega)]; simp
  by_cases hn1 : xss.length < 1
  · have hee : ((xss.length : Int) == 0) = true := by rw [beq_iff_eq]; omega
    have hr : gridB 9223372036854775807 hi xss = false := gridB_false (fun hh => by omega)
    have HR := Lib.hid hr; clear hr
    go_enter Try.func68, Try.ntmps68
    go_wp2
    go_ret
    exact ⟨ret_bool HR.out.symm, rfl⟩
  have hne : ((xss.length : Int) == 0) = false := beq_false_of_ne (by omega)
  obtain ⟨b, o, ar0, cr0, rfl, hc0, p1, p2, p3⟩ := G.out.at0 (by omega)
  clear p3
  by_cases hm1 : (rowAt xss 0).length < 1
  · have hee : (((rowAt xss 0).length : Int) == 0) = true := by rw [beq_iff_eq]; omega
    have hr : gridB 9223372036854775807 hi xss = false := gridB_false (fun hh => by omega)
    have HR := Lib.hid hr; clear hr
    go_enter Try.func68, Try.ntmps68
    go_wp2
    go_ret
    exact ⟨ret_bool HR.out.symm, rfl⟩
  have hme : (((rowAt xss 0).length : Int) == 0) = false := beq_false_of_ne (by omega)
  cases hs : shapeB (xss.length : Int) ((rowAt xss 0).length : Int) xss
  · have hr : gridB 9223372036854775807 hi xss = false := gridB_false (fun hh => by
      have : shapeB (xss.length : Int) ((rowAt xss 0).length : Int) xss = true := shapeB_true.2 ⟨rfl, fun k hk => by rw [(hh.2.2.2.2 k hk).1]⟩
      rw [hs] at this; cases this)
    have HR := Lib.hid hr; clear hr
    have HS := Lib.hid hs; clear hs
    go_enter Try.func68, Try.ntmps68
    go_wp2_with fail
    refine (hasShape_b false _ xss _ _ _ HS.out HG.out).mono ?_
    rintro e w' ⟨rfl, rfl⟩
    go_wp2
    go_ret
    exact ⟨ret_bool HR.out.symm, rfl⟩
  · have HS := Lib.hid hs; clear hs
    go_enter Try.func68, Try.ntmps68
    go_wp2_with fail
    refine (hasShape_b true _ xss _ _ _ HS.out HG.out).mono ?_
    rintro e w' ⟨rfl, rfl⟩
    go_wp2_with fail
    go_loop [32] (fun i => ∃ k : Nat, k ≤ xss.length ∧ i = .int .i64 k ∧ ∀ j, j < k → allIn 0 hi (rowAt xss j) = true) (fun i => xss.length - (intOf i).toNat)
    case atStart => exact ⟨0, Nat.zero_le _, rfl, fun j hj => by omega⟩
    case round =>
      obtain ⟨k, hk, rfl, hj⟩ := hrel
      have HJ := Lib.hid hj; clear hj
      by_cases hlt : k < xss.length
      · obtain ⟨b', o', ar, cr, he, hc, r1, r2, r3⟩ := G.out.at_ hlt
        simp only [Option.some.injEq, Addr.mk.injEq, and_true] at he
        obtain ⟨rfl, rfl⟩ := he
        have R3 := Lib.hid r3; clear r3
        go_wp2_with fail
        go_loop [38] (fun i => ∃ j : Nat, j ≤ (rowAt xss k).length ∧ i = .int .i64 j ∧ ∀ l, l < j → 0 ≤ ix (rowAt xss k) l ∧ ix (rowAt xss k) l ≤ hi) (fun i => (rowAt xss k).length - (intOf i).toNat)
        case atStart => exact ⟨0, Nat.zero_le _, rfl, fun j hj => by omega⟩
        case round =>
          obtain ⟨j, hj, rfl, hl⟩ := hrel
          have HL := Lib.hid hl; clear hl
          by_cases hjt : j < (rowAt xss k).length
          · obtain ⟨b2, o2, rfl, hc2⟩ := R3.out j hjt
            by_cases he0 : ix (rowAt xss k) j < 0
            · have hr : gridB 9223372036854775807 hi xss = false := gridB_false (fun hh => by have := allIn_true (hh.2.2.2.2 k hlt).2 hjt; omega)
              have HR := Lib.hid hr; clear hr
              go_wp2
              go_ret
              exact ⟨ret_bool HR.out.symm, rfl⟩
            · by_cases he1 : hi < ix (rowAt xss k) j
              · have hr : gridB 9223372036854775807 hi xss = false := gridB_false (fun hh => by have := allIn_true (hh.2.2.2.2 k hlt).2 hjt; omega)
                have HR := Lib.hid hr; clear hr
                go_wp2
                go_ret
                exact ⟨ret_bool HR.out.symm, rfl⟩
              · go_wp2
                go_round
                case rel => exact ⟨j + 1, by omega, by go_num, fun l hl => by
                  by_cases e : l = j
                  · subst e; omega
                  · exact HL.out l (by omega)⟩
                case measure => simp [intOf]; omega
          · go_wp2
            go_round
            case rel => exact ⟨k + 1, by omega, by go_num, fun j hj => by
              by_cases e : j = k
              · subst e; exact allIn_of (fun l hl => HL.out l (by omega))
              · exact HJ.out j (by omega)⟩
            case measure => simp [intOf]; omega
      · go_wp2
        go_ret
        exact ⟨ret_bool (gridB_true.2 ⟨by omega, by omega, by omega, by omega, fun j hj => ⟨matShape HS.out hj, HJ.out j (by omega)⟩⟩).symm, rfl⟩
theorem isGridOf_b (b : Bool) (v : Value) (xss : List (List Int)) (hi : Int) (w : World) (hb : gridB 9223372036854775807 hi xss = b) (h : Grid w v xss) :
    Calls Try.prog 68 #[v, .int .i64 hi] w fun e w' => e = .returned (.bool b) ∧ w' = w := by
  subst hb; exact isGridOf_c v xss hi w h
theorem gridB_less {d D : Nat} {hi : Int} {xss : List (List Int)} (h1 : xss.length ≤ d) (h2 : (rowAt xss 0).length ≤ d) (hd : d ≤ D) : gridB D hi xss = gridB d hi xss := by
  rw [Bool.eq_iff_iff, gridB_true, gridB_true]
  constructor
  · rintro ⟨a, _, c, _, e⟩; exact ⟨a, h1, c, h2, e⟩
  · rintro ⟨a, _, c, _, e⟩; exact ⟨a, by omega, c, by omega, e⟩
set_option maxHeartbeats 1600000 in
theorem isMatrix_b (b : Bool) (v : Value) (xss : List (List Int)) (w : World) (hb : gridB 7 10000 xss = b) (h : Grid w v xss) :
    Calls Try.prog 40 #[v] w fun e w' => e = .returned (.bool b) ∧ w' = w := by
  subst hb
  have HG := Lib.hid h
  obtain ⟨ao, cap, rfl, h1, h2, h3⟩ := h
  have G := Lib.hid h3; clear h3
  by_cases hn1 : xss.length < 1
  · have hr : gridB 7 10000 xss = false := gridB_false (fun hh => by omega)
    have HR := Lib.hid hr; clear hr
    go_enter Try.func40, Try.ntmps40
    go_wp2
    go_ret
    exact ⟨ret_bool HR.out.symm, rfl⟩
  by_cases hn2 : 7 < xss.length
  · have hr : gridB 7 10000 xss = false := gridB_false (fun hh => by omega)
    have HR := Lib.hid hr; clear hr
    go_enter Try.func40, Try.ntmps40
    go_wp2
    go_ret
    exact ⟨ret_bool HR.out.symm, rfl⟩
  obtain ⟨b, o, ar0, cr0, rfl, hc0, p1, p2, p3⟩ := G.out.at0 (by omega)
  clear p3
  by_cases hm2 : 7 < (rowAt xss 0).length
  · have hr : gridB 7 10000 xss = false := gridB_false (fun hh => by omega)
    have HR := Lib.hid hr; clear hr
    go_enter Try.func40, Try.ntmps40
    go_wp2
    go_ret
    exact ⟨ret_bool HR.out.symm, rfl⟩
  have hq : gridB 9223372036854775807 10000 xss = gridB 7 10000 xss := gridB_less (by omega) (by omega) (by omega)
  have HQ := Lib.hid hq; clear hq
  go_enter Try.func40, Try.ntmps40
  go_wp2_with fail
  refine (isGridOf_b _ _ xss 10000 _ HQ.out HG.out).mono ?_
  rintro e w' ⟨rfl, rfl⟩
  go_wp2
  go_ret
  exact ⟨rfl, rfl⟩
end Go.Proofs.Ytjpomfdmgaambaa
