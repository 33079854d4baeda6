/- Matrices: rows of equally many elements within bounds. -/
import Derived.Test.YtodnkahnbidgaaaGrid
namespace Go.Proofs.Ytodnkahnbidgaaa
open Go.RowKit

theorem matShape {xss : List (List Int)} (hs : shapeB (xss.length : Int) ((rowAt xss 0).length : Int) xss = true) {k : Nat} (hk : k < xss.length) : (rowAt xss k).length = (rowAt xss 0).length := by
  have := (shapeB_true.1 hs).2 k hk; omega

end Go.Proofs.Ytodnkahnbidgaaa
