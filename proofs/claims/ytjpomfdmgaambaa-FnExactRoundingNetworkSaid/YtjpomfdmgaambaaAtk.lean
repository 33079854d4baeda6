/- The network of an attack, the program's: attackNetwork. -/
import Derived.Test.YtjpomfdmgaambaaOb
import Derived.Test.YtjpomfdmgaambaaPub
import Derived.Test.YtjpomfdmgaambaaMarg
import Derived.Test.YtjpomfdmgaambaaTr
import Derived.BigRegion
namespace Go.Proofs.Ytjpomfdmgaambaa
open Go.RowKit

def atkLo (p : List (List Int)) (i j : Nat) (n : Int) : Int := if ix (rowAt p i) j = 1 then 0 else n
def atkHi (p : List (List Int)) (i j : Nat) (n : Int) : Int := if ix (rowAt p i) j = 1 then 100000 else n
def atkT (x p : List (List Int)) : Tr := ⟨rowS x, colS x (rowAt x 0).length, mapG (atkLo p) x, mapG (atkHi p) x⟩
theorem pub_matOk {x p : List (List Int)} (h : pubB x p = true) : MatOk x (rowAt x 0).length := by
  have a := pubB_shape h
  have g := gridB_true.1 a.1
  refine ⟨by omega, by omega, g.2.2.1, g.2.2.2.1, fun k hk => (g.2.2.2.2 k hk).1, fun k l hk hl => ?_⟩
  have := gridB_elem a.1 hk (j := l) (by rw [(g.2.2.2.2 k hk).1]; exact hl)
  omega

end Go.Proofs.Ytjpomfdmgaambaa
