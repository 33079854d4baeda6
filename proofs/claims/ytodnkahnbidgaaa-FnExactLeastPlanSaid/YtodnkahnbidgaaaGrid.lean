/- Contracts of the functions that ask whether a slice of slices of ints is a grid, spec's and the program's. -/
import Derived.Test.YtodnkahnbidgaaaCell
import Derived.Test.YtodnkahnbidgaaaGridNum
namespace Go.Proofs.Ytodnkahnbidgaaa
open Go.RowKit

/-- the first row of a grid, read at index 0 -/
theorem GridA.at0 {w : World} {ao : Option Addr} {xss : List (List Int)} (h : GridA w ao xss) (hk : 0 < xss.length) :
    ∃ b o ar cr, ao = some ⟨b, o, none⟩ ∧ w.cell? ⟨b, o, none⟩ = some (.slice ar (rowAt xss 0).length cr) ∧ (rowAt xss 0).length ≤ cr ∧ cr ≤ 9223372036854775807 ∧ IntsA w ar (rowAt xss 0) := by
  obtain ⟨b, o, ar, cr, rfl, hc, h1, h2, h3⟩ := h.at_ hk
  exact ⟨b, o, ar, cr, rfl, by simpa using hc, h1, h2, h3⟩

set_option maxHeartbeats 400000 in
theorem hasShape_c (v : Value) (xss : List (List Int)) (n m : Int) (w : World) (h : Grid w v xss) :
    Calls Try.prog 94 #[v, .int .i64 n, .int .i64 m] w fun e w' => e = .returned (.bool (shapeB n m xss)) ∧ w' = w := by
  obtain ⟨ao, cap, rfl, h1, h2, h3⟩ := h
  have G := Lib.hid h3; clear h3
  by_cases hn : (xss.length : Int) = n
  · have hb : ((xss.length : Int) != n) = false := by simp [hn]
    have HN := Lib.hid hn; clear hn
    go_enter Try.func94, Try.ntmps94
    go_wp2
    go_loop [15] (fun i => ∃ k : Nat, k ≤ xss.length ∧ i = .int .i64 k ∧ ∀ j, j < k → ((rowAt xss j).length : Int) = m) (fun i => xss.length - (intOf i).toNat)
    case atStart => exact ⟨0, Nat.zero_le _, rfl, fun j hj => by omega⟩
    case round =>
      obtain ⟨k, hk, rfl, hj⟩ := hrel
      have HJ := Lib.hid hj; clear hj
      by_cases hlt : k < xss.length
      · obtain ⟨b, o, ar, cr, rfl, hc, r1, r2, r3⟩ := G.out.at_ hlt
        clear r3
        by_cases hm : ((rowAt xss k).length : Int) = m
        · have hb2 : (((rowAt xss k).length : Int) != m) = false := by simp [hm]
          have HM := Lib.hid hm; clear hm
          go_wp2
          go_round
          case rel => exact ⟨k + 1, by omega, by go_num, fun j hj => by
            by_cases e : j = k
            · subst e; exact HM.out
            · exact HJ.out j (by omega)⟩
          case measure => simp [intOf]; omega
        · have hb2 : (((rowAt xss k).length : Int) != m) = true := by simp [hm]
          have HM := Lib.hid hm; clear hm
          go_wp2
          go_ret
          exact ⟨ret_bool (shapeB_false (fun hh => HM.out (hh.2 k hlt))).symm, rfl⟩
      · go_wp2
        go_ret
        exact ⟨ret_bool (shapeB_true.2 ⟨HN.out, fun j hj => HJ.out j (by omega)⟩).symm, rfl⟩
  · have hb : ((xss.length : Int) != n) = true := by simp [hn]
    have HN := Lib.hid hn; clear hn
    go_enter Try.func94, Try.ntmps94
    go_wp2
    go_ret
    exact ⟨ret_bool (shapeB_false (fun hh => HN.out hh.1)).symm, rfl⟩
theorem hasShape_b (b : Bool) (v : Value) (xss : List (List Int)) (n m : Int) (w : World) (hb : shapeB n m xss = b) (h : Grid w v xss) :
    Calls Try.prog 94 #[v, .int .i64 n, .int .i64 m] w fun e w' => e = .returned (.bool b) ∧ w' = w := by
  subst hb; exact hasShape_c v xss n m w h

theorem l1In_b (b : Bool) (n lo hi : Int) (w : World) (hb : (decide (lo ≤ n) && decide (n ≤ hi)) = b) :
    Calls Try.prog 65 #[.int .i64 n, .int .i64 lo, .int .i64 hi] w fun e w' => e = .returned (.bool b) ∧ w' = w := by
  subst hb; exact l1In_c n lo hi w
theorem l1All_b (b : Bool) (v : Value) (xs : List Int) (lo hi : Int) (w : World) (hb : allIn lo hi xs = b) (h : Ints w v xs) :
    Calls Try.prog 99 #[v, .int .i64 lo, .int .i64 hi] w fun e w' => e = .returned (.bool b) ∧ w' = w := by
  subst hb; exact l1All_c v xs lo hi w h

set_option maxHeartbeats 800000 in
theorem qForm_c (v : Value) (xss : List (List Int)) (hi : Int) (w : World) (h : Grid w v xss) :
    Calls Try.prog 81 #[v, .int .i64 hi] w fun e w' => e = .returned (.bool (gridB 8 hi xss)) ∧ w' = w := by
  obtain ⟨ao, cap, rfl, h1, h2, h3⟩ := h
  have G := Lib.hid h3; clear h3
  by_cases hn : 1 ≤ xss.length ∧ xss.length ≤ 8
  · have d1 : (decide ((1 : Int) ≤ (xss.length : Int)) && decide ((xss.length : Int) ≤ 8)) = true := by simp; omega
    have D1 := Lib.hid d1; clear d1
    obtain ⟨b, o, ar0, cr0, rfl, hc0, p1, p2, p3⟩ := G.out.at0 (by omega)
    clear p3
    by_cases hm : 1 ≤ (rowAt xss 0).length ∧ (rowAt xss 0).length ≤ 8
    · have d2 : (decide ((1 : Int) ≤ ((rowAt xss 0).length : Int)) && decide (((rowAt xss 0).length : Int) ≤ 8)) = true := by simp; omega
      have D2 := Lib.hid d2; clear d2
      go_enter Try.func81, Try.ntmps81
      go_wp2_with fail
      refine (l1In_b true (xss.length : Int) 1 8 _ D1.out).mono ?_
      rintro e w' ⟨rfl, rfl⟩
      go_wp2_with fail
      refine (l1In_b true ((rowAt xss 0).length : Int) 1 8 _ D2.out).mono ?_
      rintro e w' ⟨rfl, rfl⟩
      go_wp2_with fail
      go_loop [21] (fun i => ∃ k : Nat, k ≤ xss.length ∧ i = .int .i64 k ∧ ∀ j, j < k → (rowAt xss j).length = (rowAt xss 0).length ∧ allIn 0 hi (rowAt xss j) = true) (fun i => xss.length - (intOf i).toNat)
      case atStart => exact ⟨0, Nat.zero_le _, rfl, fun j hj => by omega⟩
      case round =>
        obtain ⟨k, hk, rfl, hj⟩ := hrel
        have HJ := Lib.hid hj; clear hj
        by_cases hlt : k < xss.length
        · obtain ⟨b', o', ar, cr, he, hc, r1, r2, r3⟩ := G.out.at_ hlt
          simp only [Option.some.injEq, Addr.mk.injEq, and_true] at he
          obtain ⟨rfl, rfl⟩ := he
          have R3 := Lib.hid r3; clear r3
          by_cases hl : (rowAt xss k).length = (rowAt xss 0).length
          · have hb2 : (((rowAt xss k).length : Int) != ((rowAt xss 0).length : Int)) = false := by simp [hl]
            have HL := Lib.hid hl; clear hl
            cases ha : allIn 0 hi (rowAt xss k)
            · have HA := Lib.hid ha; clear ha
              go_wp2_with (go_at_call 99; refine (l1All_b false _ (rowAt xss k) 0 hi _ HA.out ⟨ar, cr, rfl, r1, r2, R3.out⟩).mono ?_; rintro e w' ⟨rfl, rfl⟩)
              go_ret
              exact ⟨ret_bool (gridB_false (fun hh => by have := (hh.2.2.2.2 k hlt).2; rw [HA.out] at this; cases this)).symm, rfl⟩
            · have HA := Lib.hid ha; clear ha
              go_wp2_with (go_at_call 99; refine (l1All_b true _ (rowAt xss k) 0 hi _ HA.out ⟨ar, cr, rfl, r1, r2, R3.out⟩).mono ?_; rintro e w' ⟨rfl, rfl⟩)
              go_round
              case rel => exact ⟨k + 1, by omega, by go_num, fun j hj => by
                by_cases e : j = k
                · subst e; exact ⟨HL.out, HA.out⟩
                · exact HJ.out j (by omega)⟩
              case measure => simp [intOf]; omega
          · have hb2 : (((rowAt xss k).length : Int) != ((rowAt xss 0).length : Int)) = true := by simp; omega
            have HL := Lib.hid hl; clear hl
            go_wp2
            go_ret
            exact ⟨ret_bool (gridB_false (fun hh => HL.out (hh.2.2.2.2 k hlt).1)).symm, rfl⟩
        · go_wp2
          go_ret
          exact ⟨ret_bool (gridB_true.2 ⟨by omega, by omega, by omega, by omega, fun j hj => HJ.out j (by omega)⟩).symm, rfl⟩
    · have d2 : (decide ((1 : Int) ≤ ((rowAt xss 0).length : Int)) && decide (((rowAt xss 0).length : Int) ≤ 8)) = false := by
        rw [Bool.and_eq_false_iff]; simp only [decide_eq_false_iff_not]; omega
      have D2 := Lib.hid d2; clear d2
      have HM := Lib.hid hm; clear hm
      go_enter Try.func81, Try.ntmps81
      go_wp2_with fail
      refine (l1In_b true (xss.length : Int) 1 8 _ D1.out).mono ?_
      rintro e w' ⟨rfl, rfl⟩
      go_wp2_with fail
      refine (l1In_b false ((rowAt xss 0).length : Int) 1 8 _ D2.out).mono ?_
      rintro e w' ⟨rfl, rfl⟩
      go_wp2_with fail
      go_ret
      exact ⟨ret_bool (gridB_false (fun hh => HM.out ⟨hh.2.2.1, hh.2.2.2.1⟩)).symm, rfl⟩
  · have d1 : (decide ((1 : Int) ≤ (xss.length : Int)) && decide ((xss.length : Int) ≤ 8)) = false := by
      rw [Bool.and_eq_false_iff]; simp only [decide_eq_false_iff_not]; omega
    have D1 := Lib.hid d1; clear d1
    have HN := Lib.hid hn; clear hn
    go_enter Try.func81, Try.ntmps81
    go_wp2_with (go_at_call 65; refine (l1In_b false (xss.length : Int) 1 8 _ D1.out).mono ?_; rintro e w' ⟨rfl, rfl⟩)
    go_ret
    exact ⟨ret_bool (gridB_false (fun hh => HN.out ⟨hh.1, hh.2.1⟩)).symm, rfl⟩

theorem qTable_b (b : Bool) (v : Value) (xss : List (List Int)) (w : World) (hb : gridB 8 1000 xss = b) (h : Grid w v xss) :
    Calls Try.prog 80 #[v] w fun e w' => e = .returned (.bool b) ∧ w' = w := by
  have H := Lib.hid h; clear h
  subst hb
  go_enter Try.func80, Try.ntmps80
  go_wp2_with fail
  refine (qForm_c v xss 1000 _ H.out).mono ?_
  rintro e w' ⟨rfl, rfl⟩
  go_wp2
  go_ret
  exact ⟨rfl, rfl⟩
theorem qForm_b (b : Bool) (v : Value) (xss : List (List Int)) (hi : Int) (w : World) (hb : gridB 8 hi xss = b) (h : Grid w v xss) :
    Calls Try.prog 81 #[v, .int .i64 hi] w fun e w' => e = .returned (.bool b) ∧ w' = w := by
  subst hb; exact qForm_c v xss hi w h

/-- the loops of isGrid over a grid of the right shape -/
theorem isGrid_shape {xss : List (List Int)} (hs : shapeB (xss.length : Int) ((rowAt xss 0).length : Int) xss = true) {k : Nat} (hk : k < xss.length) : (rowAt xss k).length = (rowAt xss 0).length := by
  have := (shapeB_true.1 hs).2 k hk; omega
set_option maxHeartbeats 1600000 in
theorem isGrid_c (v : Value) (xss : List (List Int)) (hi : Int) (w : World) (h : Grid w v xss) :
    Calls Try.prog 93 #[v, .int .i64 hi] w fun e w' => e = .returned (.bool (gridB 8 hi xss)) ∧ w' = w := by
  have HG := Lib.hid h
  obtain ⟨ao, cap, rfl, h1, h2, h3⟩ := h
  have G := Lib.hid h3; clear h3
  by_cases hn1 : xss.length < 1
  · have hr : gridB 8 hi xss = false := gridB_false (fun hh => by omega)
    have HR := Lib.hid hr; clear hr
    go_enter Try.func93, Try.ntmps93
    go_wp2
    go_ret
    exact ⟨ret_bool HR.out.symm, rfl⟩
  by_cases hn2 : 8 < xss.length
  · have hr : gridB 8 hi xss = false := gridB_false (fun hh => by omega)
    have HR := Lib.hid hr; clear hr
    go_enter Try.func93, Try.ntmps93
    go_wp2
    go_ret
    exact ⟨ret_bool HR.out.symm, rfl⟩
  obtain ⟨b, o, ar0, cr0, rfl, hc0, p1, p2, p3⟩ := G.out.at0 (by omega)
  clear p3
  by_cases hm1 : (rowAt xss 0).length < 1
  · have hr : gridB 8 hi xss = false := gridB_false (fun hh => by omega)
    have HR := Lib.hid hr; clear hr
    go_enter Try.func93, Try.ntmps93
    go_wp2
    go_ret
    exact ⟨ret_bool HR.out.symm, rfl⟩
  by_cases hm2 : 8 < (rowAt xss 0).length
  · have hr : gridB 8 hi xss = false := gridB_false (fun hh => by omega)
    have HR := Lib.hid hr; clear hr
    go_enter Try.func93, Try.ntmps93
    go_wp2
    go_ret
    exact ⟨ret_bool HR.out.symm, rfl⟩
  cases hs : shapeB (xss.length : Int) ((rowAt xss 0).length : Int) xss
  · have hr : gridB 8 hi xss = false := gridB_false (fun hh => by
      have : shapeB (xss.length : Int) ((rowAt xss 0).length : Int) xss = true := shapeB_true.2 ⟨rfl, fun k hk => by rw [(hh.2.2.2.2 k hk).1]⟩
      rw [hs] at this; cases this)
    have HR := Lib.hid hr; clear hr
    have HS := Lib.hid hs; clear hs
    go_enter Try.func93, Try.ntmps93
    go_wp2_with fail
    refine (hasShape_b false _ xss _ _ _ HS.out HG.out).mono ?_
    rintro e w' ⟨rfl, rfl⟩
    go_wp2
    go_ret
    exact ⟨ret_bool HR.out.symm, rfl⟩
  · have HS := Lib.hid hs; clear hs
    go_enter Try.func93, Try.ntmps93
    go_wp2_with fail
    refine (hasShape_b true _ xss _ _ _ HS.out HG.out).mono ?_
    rintro e w' ⟨rfl, rfl⟩
    go_wp2_with fail
    go_loop [44] (fun i => ∃ k : Nat, k ≤ xss.length ∧ i = .int .i64 k ∧ ∀ j, j < k → allIn 0 hi (rowAt xss j) = true) (fun i => xss.length - (intOf i).toNat)
    case atStart => exact ⟨0, Nat.zero_le _, rfl, fun j hj => by omega⟩
    case round =>
      obtain ⟨k, hk, rfl, hj⟩ := hrel
      have HJ := Lib.hid hj; clear hj
      by_cases hlt : k < xss.length
      · obtain ⟨b', o', ar, cr, he, hc, r1, r2, r3⟩ := G.out.at_ hlt
        simp only [Option.some.injEq, Addr.mk.injEq, and_true] at he
        obtain ⟨rfl, rfl⟩ := he
        have R3 := Lib.hid r3; clear r3
        go_wp2_with fail
        go_loop [50] (fun i => ∃ j : Nat, j ≤ (rowAt xss k).length ∧ i = .int .i64 j ∧ ∀ l, l < j → 0 ≤ ix (rowAt xss k) l ∧ ix (rowAt xss k) l ≤ hi) (fun i => (rowAt xss k).length - (intOf i).toNat)
        case atStart => exact ⟨0, Nat.zero_le _, rfl, fun j hj => by omega⟩
        case round =>
          obtain ⟨j, hj, rfl, hl⟩ := hrel
          have HL := Lib.hid hl; clear hl
          by_cases hjt : j < (rowAt xss k).length
          · obtain ⟨b2, o2, rfl, hc2⟩ := R3.out j hjt
            by_cases he0 : ix (rowAt xss k) j < 0
            · have hr : gridB 8 hi xss = false := gridB_false (fun hh => by have := allIn_true (hh.2.2.2.2 k hlt).2 hjt; omega)
              have HR := Lib.hid hr; clear hr
              go_wp2
              go_ret
              exact ⟨ret_bool HR.out.symm, rfl⟩
            · by_cases he1 : hi < ix (rowAt xss k) j
              · have hr : gridB 8 hi xss = false := gridB_false (fun hh => by have := allIn_true (hh.2.2.2.2 k hlt).2 hjt; omega)
                have HR := Lib.hid hr; clear hr
                go_wp2
                go_ret
                exact ⟨ret_bool HR.out.symm, rfl⟩
              · go_wp2
                go_round
                case rel => exact ⟨j + 1, by omega, by go_num, fun l hl => by
                  by_cases e : l = j
                  · subst e; omega
                  · exact HL.out l (by omega)⟩
                case measure => simp [intOf]; omega
          · go_wp2
            go_round
            case rel => exact ⟨k + 1, by omega, by go_num, fun j hj => by
              by_cases e : j = k
              · subst e; exact allIn_of (fun l hl => HL.out l (by omega))
              · exact HJ.out j (by omega)⟩
            case measure => simp [intOf]; omega
      · go_wp2
        go_ret
        exact ⟨ret_bool (gridB_true.2 ⟨by omega, by omega, by omega, by omega, fun j hj => ⟨isGrid_shape HS.out hj, HJ.out j (by omega)⟩⟩).symm, rfl⟩
theorem isGrid_b (b : Bool) (v : Value) (xss : List (List Int)) (hi : Int) (w : World) (hb : gridB 8 hi xss = b) (h : Grid w v xss) :
    Calls Try.prog 93 #[v, .int .i64 hi] w fun e w' => e = .returned (.bool b) ∧ w' = w := by
  subst hb; exact isGrid_c v xss hi w h
theorem implIsTwoWay_b (b : Bool) (v : Value) (xss : List (List Int)) (w : World) (hb : gridB 8 1000 xss = b) (h : Grid w v xss) :
    Calls Try.prog 71 #[v] w fun e w' => e = .returned (.bool b) ∧ w' = w := by
  have H := Lib.hid h; clear h
  subst hb
  go_enter Try.func71, Try.ntmps71
  go_wp2_with fail
  refine (isGrid_c v xss 1000 _ H.out).mono ?_
  rintro e w' ⟨rfl, rfl⟩
  go_wp2
  go_ret
  exact ⟨rfl, rfl⟩

/-- p is a pattern for x, which is a grid: its plain form -/
def patB (x p : List (List Int)) : Bool := gridB 8 1 p && decide (p.length = x.length ∧ (rowAt p 0).length = (rowAt x 0).length)
set_option maxHeartbeats 800000 in
theorem qPattern_b (b : Bool) (v1 v2 : Value) (x p : List (List Int)) (w : World) (hb : (gridB 8 1000 x && patB x p) = b) (h1 : Grid w v1 x) (h2 : Grid w v2 p) :
    Calls Try.prog 35 #[v1, v2] w fun e w' => e = .returned (.bool b) ∧ Drew w w' := by
  have H1 := Lib.hid h1
  have H2 := Lib.hid h2
  obtain ⟨a1, c1, rfl, e1, e2, g1⟩ := h1
  obtain ⟨a2, c2, rfl, e3, e4, g2⟩ := h2
  have G1 := Lib.hid g1; clear g1
  have G2 := Lib.hid g2; clear g2
  cases hx : gridB 8 1000 x
  · have HX := Lib.hid hx
    rw [hx] at hb; clear hx
    simp only [Bool.false_and] at hb
    subst hb
    go_enter Try.func35, Try.ntmps35
    go_wp2_with fail
    go_quiet ((go_at_call 80; exact Calls.quiet_of_same (qTable_b false _ x _ HX.out H1.out)))
    go_wp2
    go_ret
    exact ⟨rfl, nq, rfl⟩
  · have hxx := gridB_true.1 hx
    have HX := Lib.hid hx
    rw [hx] at hb; clear hx
    simp only [Bool.true_and] at hb
    cases hp : gridB 8 1 p
    · have HP := Lib.hid hp
      simp only [patB, hp, Bool.false_and] at hb; clear hp
      subst hb
      go_enter Try.func35, Try.ntmps35
      go_wp2_with fail
      go_quiet ((first | (go_at_call 80; exact Calls.quiet_of_same (qTable_b true _ x _ HX.out H1.out)) | (go_at_call 81; exact Calls.quiet_of_same (qForm_b false _ p 1 _ HP.out H2.out))))
      go_wp2
      go_ret
      exact ⟨rfl, nq, rfl⟩
    · have hpp := gridB_true.1 hp
      have HP := Lib.hid hp
      simp only [patB, hp, Bool.true_and] at hb; clear hp
      obtain ⟨b1, o1, ar1, cr1, rfl, hc1, p1, p2, p3⟩ := G1.out.at0 (by omega)
      obtain ⟨b2, o2, ar2, cr2, rfl, hc2, q1, q2, q3⟩ := G2.out.at0 (by omega)
      clear p3 q3
      have x0 : (0 : Int) < (x.length : Int) := by omega
      have y0 : (0 : Int) < (p.length : Int) := by omega
      obtain ⟨_, _, _, _, hxr⟩ := hxx; clear hxr
      obtain ⟨_, _, _, _, hpr⟩ := hpp; clear hpr
      by_cases hl : p.length = x.length
      · have hd : ((p.length : Int) == (x.length : Int)) = true := by simp [hl]
        by_cases hm : (rowAt p 0).length = (rowAt x 0).length
        · have hd2 : (((rowAt p 0).length : Int) == ((rowAt x 0).length : Int)) = true := by simp [hm]
          simp only [hl, hm, and_self, decide_true] at hb
          subst hb
          have HL := Lib.hid hl; clear hl
          have HM := Lib.hid hm; clear hm
          go_enter Try.func35, Try.ntmps35
          go_wp2_with fail
          go_quiet ((first | (go_at_call 80; exact Calls.quiet_of_same (qTable_b true _ x _ HX.out H1.out)) | (go_at_call 81; exact Calls.quiet_of_same (qForm_b true _ p 1 _ HP.out H2.out))))
          go_wp2
          go_ret
          exact ⟨rfl, nq, rfl⟩
        · have hd2 : (((rowAt p 0).length : Int) == ((rowAt x 0).length : Int)) = false := by simp; omega
          have hf : ¬ (p.length = x.length ∧ (rowAt p 0).length = (rowAt x 0).length) := fun hh => hm hh.2
          simp only [hf, decide_false] at hb
          subst hb
          clear hf
          have HL := Lib.hid hl; clear hl
          have HM := Lib.hid hm; clear hm
          go_enter Try.func35, Try.ntmps35
          go_wp2_with fail
          go_quiet ((first | (go_at_call 80; exact Calls.quiet_of_same (qTable_b true _ x _ HX.out H1.out)) | (go_at_call 81; exact Calls.quiet_of_same (qForm_b true _ p 1 _ HP.out H2.out))))
          go_wp2
          go_ret
          exact ⟨rfl, nq, rfl⟩
      · have hd : ((p.length : Int) == (x.length : Int)) = false := by simp; omega
        have hf : ¬ (p.length = x.length ∧ (rowAt p 0).length = (rowAt x 0).length) := fun hh => hl hh.1
        simp only [hf, decide_false] at hb
        subst hb
        clear hf
        have HL := Lib.hid hl; clear hl
        go_enter Try.func35, Try.ntmps35
        go_wp2_with fail
        go_quiet ((first | (go_at_call 80; exact Calls.quiet_of_same (qTable_b true _ x _ HX.out H1.out)) | (go_at_call 81; exact Calls.quiet_of_same (qForm_b true _ p 1 _ HP.out H2.out))))
        go_wp2
        go_ret
        exact ⟨rfl, nq, rfl⟩

theorem patB_shape {x p : List (List Int)} (hp : gridB 8 1 p = true) : patB x p = shapeB (x.length : Int) ((rowAt x 0).length : Int) p := by
  have hpp := gridB_true.1 hp
  rw [Bool.eq_iff_iff, shapeB_true]
  simp only [patB, hp, Bool.true_and, decide_eq_true_eq]
  constructor
  · rintro ⟨h1, h2⟩
    exact ⟨by omega, fun k hk => by rw [(hpp.2.2.2.2 k hk).1, h2]⟩
  · rintro ⟨h1, h2⟩
    exact ⟨by omega, by have := h2 0 (by omega); omega⟩
set_option maxHeartbeats 800000 in
theorem isPattern_b (b : Bool) (v1 v2 : Value) (x p : List (List Int)) (w : World) (hb : patB x p = b) (hx : gridB 8 1000 x = true) (h1 : Grid w v1 x) (h2 : Grid w v2 p) :
    Calls Try.prog 72 #[v1, v2] w fun e w' => e = .returned (.bool b) ∧ w' = w := by
  have H2 := Lib.hid h2; clear h2
  obtain ⟨a1, c1, rfl, e1, e2, g1⟩ := h1
  have hxx := gridB_true.1 hx
  clear hx
  obtain ⟨hx1, _, _, _, hxr⟩ := hxx; clear hxr
  obtain ⟨b1, o1, ar1, cr1, rfl, hc1, p1, p2, p3⟩ := g1.at0 (by omega)
  clear p3 g1
  cases hp : gridB 8 1 p
  · have HP := Lib.hid hp
    simp only [patB, hp, Bool.false_and] at hb; clear hp
    subst hb
    go_enter Try.func72, Try.ntmps72
    go_wp2_with fail
    refine (isGrid_b false _ p 1 _ HP.out H2.out).mono ?_
    rintro e w' ⟨rfl, rfl⟩
    go_wp2
    go_ret
    exact ⟨rfl, rfl⟩
  · have hb2 := Lib.hid ((patB_shape hp).symm.trans hb)
    have HP := Lib.hid hp; clear hp hb
    go_enter Try.func72, Try.ntmps72
    go_wp2_with fail
    refine (isGrid_b true _ p 1 _ HP.out H2.out).mono ?_
    rintro e w' ⟨rfl, rfl⟩
    go_wp2_with fail
    refine (hasShape_b b _ p _ _ _ hb2.out H2.out).mono ?_
    rintro e w' ⟨rfl, rfl⟩
    go_wp2
    go_ret
    exact ⟨rfl, rfl⟩

theorem ret_two_bools {a a' b b' : Bool} (h : a = a') (k : b = b') : Ending.returned (.tuple #[.bool a, .bool b]) = .returned (.tuple #[.bool a', .bool b']) := by rw [h, k]
end Go.Proofs.Ytodnkahnbidgaaa
