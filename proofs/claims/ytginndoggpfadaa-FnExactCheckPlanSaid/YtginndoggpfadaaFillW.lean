/- A greatest filling, the program's: fill. -/
import Derived.Test.YtginndoggpfadaaFillW0
import Derived.Test.YtginndoggpfadaaCell
import Derived.Test.YtginndoggpfadaaSums
import Derived.Deep.RegionWith
import Derived.Deep.RegionLaw
import Derived.Deep.CutRange
namespace Go.Proofs.Ytginndoggpfadaa
open Go.RowKit
open Fm

end Go.Proofs.Ytginndoggpfadaa
