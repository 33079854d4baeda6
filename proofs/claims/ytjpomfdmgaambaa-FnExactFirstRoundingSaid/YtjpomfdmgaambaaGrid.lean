/- Contracts of the functions that ask whether a slice of slices of ints is a grid, spec's and the program's. -/
import Derived.Test.YtjpomfdmgaambaaCell
import Derived.Test.YtjpomfdmgaambaaGridNum
namespace Go.Proofs.Ytjpomfdmgaambaa
open Go.RowKit

/-- the first row of a grid, read at index 0 -/
theorem GridA.at0 {w : World} {ao : Option Addr} {xss : List (List Int)} (h : GridA w ao xss) (hk : 0 < xss.length) :
    ∃ b o ar cr, ao = some ⟨b, o, none⟩ ∧ w.cell? ⟨b, o, none⟩ = some (.slice ar (rowAt xss 0).length cr) ∧ (rowAt xss 0).length ≤ cr ∧ cr ≤ 9223372036854775807 ∧ IntsA w ar (rowAt xss 0) := by
  obtain ⟨b, o, ar, cr, rfl, hc, h1, h2, h3⟩ := h.at_ hk
  exact ⟨b, o, ar, cr, rfl, by simpa using hc, h1, h2, h3⟩

set_option maxHeartbeats 400000 in
theorem hasShape_c (v : Value) (xss : List (List Int)) (n m : Int) (w : World) (h : Grid w v xss) :
    Calls Try.prog 56 #[v, .int .i64 n, .int .i64 m] w fun e w' => e = .returned (.bool (shapeB n m xss)) ∧ w' = w := by
  obtain ⟨ao, cap, rfl, h1, h2, h3⟩ := h
  have G := Lib.hid h3; clear h3
  by_cases hn : (xss.length : Int) = n
  · have hb : ((xss.length : Int) != n) = false := by simp [hn]
    have HN := Lib.hid hn; clear hn
    go_enter Try.func56, Try.ntmps56
    go_wp2
    go_loop [15] (fun i => ∃ k : Nat, k ≤ xss.length ∧ i = .int .i64 k ∧ ∀ j, j < k → ((rowAt xss j).length : Int) = m) (fun i => xss.length - (intOf i).toNat)
    case atStart => exact ⟨0, Nat.zero_le _, rfl, fun j hj => by omega⟩
    case round =>
      obtain ⟨k, hk, rfl, hj⟩ := hrel
      have HJ := Lib.hid hj; clear hj
      by_cases hlt : k < xss.length
      · obtain ⟨b, o, ar, cr, rfl, hc, r1, r2, r3⟩ := G.out.at_ hlt
        clear r3
        by_cases hm : ((rowAt xss k).length : Int) = m
        · have hb2 : (((rowAt xss k).length : Int) != m) = false := by simp [hm]
          have HM := Lib.hid hm; clear hm
          go_wp2
          go_round
          case rel => exact ⟨k + 1, by omega, by go_num, fun j hj => by
            by_cases e : j = k
            · subst e; exact HM.out
            · exact HJ.out j (by omega)⟩
          case measure => simp [intOf]; omega
        · have hb2 : (((rowAt xss k).length : Int) != m) = true := by simp [hm]
          have HM := Lib.hid hm; clear hm
          go_wp2
          go_ret
          exact ⟨ret_bool (shapeB_false (fun hh => HM.out (hh.2 k hlt))).symm, rfl⟩
      · go_wp2
        go_ret
        exact ⟨ret_bool (shapeB_true.2 ⟨HN.out, fun j hj => HJ.out j (by omega)⟩).symm, rfl⟩
  · have hb : ((xss.length : Int) != n) = true := by simp [hn]
    have HN := Lib.hid hn; clear hn
    go_enter Try.func56, Try.ntmps56
    go_wp2
    go_ret
    exact ⟨ret_bool (shapeB_false (fun hh => HN.out hh.1)).symm, rfl⟩
theorem hasShape_b (b : Bool) (v : Value) (xss : List (List Int)) (n m : Int) (w : World) (hb : shapeB n m xss = b) (h : Grid w v xss) :
    Calls Try.prog 56 #[v, .int .i64 n, .int .i64 m] w fun e w' => e = .returned (.bool b) ∧ w' = w := by
  subst hb; exact hasShape_c v xss n m w h

theorem l1In_b (b : Bool) (n lo hi : Int) (w : World) (hb : (decide (lo ≤ n) && decide (n ≤ hi)) = b) :
    Calls Try.prog 43 #[.int .i64 n, .int .i64 lo, .int .i64 hi] w fun e w' => e = .returned (.bool b) ∧ w' = w := by
  subst hb; exact l1In_c n lo hi w
theorem l1All_b (b : Bool) (v : Value) (xs : List Int) (lo hi : Int) (w : World) (hb : allIn lo hi xs = b) (h : Ints w v xs) :
    Calls Try.prog 50 #[v, .int .i64 lo, .int .i64 hi] w fun e w' => e = .returned (.bool b) ∧ w' = w := by
  subst hb; exact l1All_c v xs lo hi w h




/-- p is a pattern for x, which is a grid: its plain form -/
def patB (x p : List (List Int)) : Bool := gridB 8 1 p && decide (p.length = x.length ∧ (rowAt p 0).length = (rowAt x 0).length)


theorem ret_two_bools {a a' b b' : Bool} (h : a = a') (k : b = b') : Ending.returned (.tuple #[.bool a, .bool b]) = .returned (.tuple #[.bool a', .bool b']) := by rw [h, k]
end Go.Proofs.Ytjpomfdmgaambaa
