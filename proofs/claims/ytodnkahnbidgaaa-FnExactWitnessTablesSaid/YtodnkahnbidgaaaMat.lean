/- Matrices: rows of equally many elements within bounds. -/
import Derived.Test.YtodnkahnbidgaaaGrid
namespace Go.Proofs.Ytodnkahnbidgaaa
open Go.RowKit

end Go.Proofs.Ytodnkahnbidgaaa
