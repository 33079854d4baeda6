/- Matrices: rows of equally many elements within bounds. -/
import Derived.Test.YtginndoggpfadaaGrid
namespace Go.Proofs.Ytginndoggpfadaa
open Go.RowKit

end Go.Proofs.Ytginndoggpfadaa
