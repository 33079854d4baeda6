/- Contracts of the functions that ask whether a slice of slices of ints is a grid, spec's and the program's. -/
import Derived.Test.YtolmmhdeebgglaaCell
import Derived.Test.YtolmmhdeebgglaaGridNum
namespace Go.Proofs.Ytolmmhdeebgglaa
open Go.RowKit

/-- the first row of a grid, read at index 0 -/
theorem GridA.at0 {w : World} {ao : Option Addr} {xss : List (List Int)} (h : GridA w ao xss) (hk : 0 < xss.length) :
    ∃ b o ar cr, ao = some ⟨b, o, none⟩ ∧ w.cell? ⟨b, o, none⟩ = some (.slice ar (rowAt xss 0).length cr) ∧ (rowAt xss 0).length ≤ cr ∧ cr ≤ 9223372036854775807 ∧ IntsA w ar (rowAt xss 0) := by
  obtain ⟨b, o, ar, cr, rfl, hc, h1, h2, h3⟩ := h.at_ hk
  exact ⟨b, o, ar, cr, rfl, by simpa using hc, h1, h2, h3⟩


theorem l1In_b (b : Bool) (n lo hi : Int) (w : World) (hb : (decide (lo ≤ n) && decide (n ≤ hi)) = b) :
    Calls Try.prog 80 #[.int .i64 n, .int .i64 lo, .int .i64 hi] w fun e w' => e = .returned (.bool b) ∧ w' = w := by
  subst hb; exact l1In_c n lo hi w
theorem l1All_b (b : Bool) (v : Value) (xs : List Int) (lo hi : Int) (w : World) (hb : allIn lo hi xs = b) (h : Ints w v xs) :
    Calls Try.prog 81 #[v, .int .i64 lo, .int .i64 hi] w fun e w' => e = .returned (.bool b) ∧ w' = w := by
  subst hb; exact l1All_c v xs lo hi w h




/-- p is a pattern for x, which is a grid: its plain form -/
def patB (x p : List (List Int)) : Bool := gridB 8 1 p && decide (p.length = x.length ∧ (rowAt p 0).length = (rowAt x 0).length)


theorem ret_two_bools {a a' b b' : Bool} (h : a = a') (k : b = b') : Ending.returned (.tuple #[.bool a, .bool b]) = .returned (.tuple #[.bool a', .bool b']) := by rw [h, k]
end Go.Proofs.Ytolmmhdeebgglaa
