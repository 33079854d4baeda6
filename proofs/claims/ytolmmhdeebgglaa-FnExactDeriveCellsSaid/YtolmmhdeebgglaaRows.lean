/-
  No cell of these rows narrows 'for every input' (looked for: loops, veiled, ifaces, maps, wideKeys, modest, calm, conditions, laid).
  DERIVED. THE GIVEN ROWS OF THIS SEAT. 3 by the template 'for every input the law returns true; each argument reads behind the call as it read before'; 0 by the template 'total and deterministic' (their statements: YtolmmhdeebgglaaTotals.lean).
  GIVEN WITH THE SEED: the statements are not yours to turn. If you find one false, say at which input.
  Laid BY PROGRAM, IN A SANDBOX (cutbox-rows.mjs): the forced cells as the released guide's own fill.sh prints them over the translation 124539b1b08e7efe… (all of the seat's roots in one cut). By AI agents, Wed Nov 11 2026. No macro, syntax, notation, axiom, sorry.
-/
import Derived.Test.YtolmmhdeebgglaaChecked
import GoSem.Claim
import GoSem.ClaimJoined
import GoSem.ClaimMapViews
import Derived.JoinedTies
import Derived.KernelRfl
namespace Go.Proofs.Ytolmmhdeebgglaa
/- THE CELL 'sum', in the pinned program and in every row, IS THE sha256 OF THE DUMP (.gsa) THAT YtolmmhdeebgglaaProg.lean LOADS. Nothing in Lean hashes anything: it is a label: what it is worth is what the hold of that sum in a sandbox is worth. -/
noncomputable def Try.pinned : Pinned := { name := "ytolmmhdeebgglaa", sum := "124539b1b08e7efe09c40445e3f89351a4a7d4b800a9537baf0061bccc3d07d9", checked := Try.checked }
namespace Rows
def none {H : Type} : Left H := { results := [], args := [] }

/-- 'laws.FnExactSourcesIn': WHATEVER THE INPUT: true; the input reads as it did. -/
def fnExactSourcesInSpec : ChangeSpec := { name := "fnExactSourcesIn", fn := fun _ => fun
  | [d1, d2, d3] => { results := [.lit (.bool true)], args := [d1, d2, d3] }
  | _ => none }
def fnExactSourcesInRow : OpenClaim := { program := "ytolmmhdeebgglaa", sum := "124539b1b08e7efe09c40445e3f89351a4a7d4b800a9537baf0061bccc3d07d9", func := "loop.example/g00908/laws.FnExactSourcesIn", spec := "fnExactSourcesIn", apart := false }
def FnExactSourcesInSaid : Prop := fnExactSourcesInRow.holds Try.pinned (OpenSpec.ofChange fnExactSourcesInSpec)

/-- ITS FALSE NEIGHBOUR: 'it returns false'. Refute it at one input. -/
def fnExactSourcesInWrong : ChangeSpec := { name := "fnExactSourcesIn", fn := fun _ => fun
  | [d1, d2, d3] => { results := [.lit (.bool false)], args := [d1, d2, d3] }
  | _ => none }
def FnExactSourcesInWrongFalsely : Prop := fnExactSourcesInRow.holds Try.pinned (OpenSpec.ofChange fnExactSourcesInWrong)

/-- 'laws.FnExactLongestChain': WHATEVER THE INPUT: true; the input reads as it did. -/
def fnExactLongestChainSpec : ChangeSpec := { name := "fnExactLongestChain", fn := fun _ => fun
  | [d1, d2, d3] => { results := [.lit (.bool true)], args := [d1, d2, d3] }
  | _ => none }
def fnExactLongestChainRow : OpenClaim := { program := "ytolmmhdeebgglaa", sum := "124539b1b08e7efe09c40445e3f89351a4a7d4b800a9537baf0061bccc3d07d9", func := "loop.example/g00908/laws.FnExactLongestChain", spec := "fnExactLongestChain", unfollowed := true, recurses := true, apart := false }
def FnExactLongestChainSaid : Prop := fnExactLongestChainRow.holds Try.pinned (OpenSpec.ofChange fnExactLongestChainSpec)

/-- ITS FALSE NEIGHBOUR: 'it returns false'. Refute it at one input. -/
def fnExactLongestChainWrong : ChangeSpec := { name := "fnExactLongestChain", fn := fun _ => fun
  | [d1, d2, d3] => { results := [.lit (.bool false)], args := [d1, d2, d3] }
  | _ => none }
def FnExactLongestChainWrongFalsely : Prop := fnExactLongestChainRow.holds Try.pinned (OpenSpec.ofChange fnExactLongestChainWrong)

/-- 'laws.FnExactDeriveCells': WHATEVER THE INPUT: true; the input reads as it did. -/
def fnExactDeriveCellsSpec : ChangeSpec := { name := "fnExactDeriveCells", fn := fun _ => fun
  | [d1, d2, d3, d4, d5] => { results := [.lit (.bool true)], args := [d1, d2, d3, d4, d5] }
  | _ => none }
def fnExactDeriveCellsRow : OpenClaim := { program := "ytolmmhdeebgglaa", sum := "124539b1b08e7efe09c40445e3f89351a4a7d4b800a9537baf0061bccc3d07d9", func := "loop.example/g00908/laws.FnExactDeriveCells", spec := "fnExactDeriveCells", apart := false }
def FnExactDeriveCellsSaid : Prop := fnExactDeriveCellsRow.holds Try.pinned (OpenSpec.ofChange fnExactDeriveCellsSpec)

/-- ITS FALSE NEIGHBOUR: 'it returns false'. Refute it at one input. -/
def fnExactDeriveCellsWrong : ChangeSpec := { name := "fnExactDeriveCells", fn := fun _ => fun
  | [d1, d2, d3, d4, d5] => { results := [.lit (.bool false)], args := [d1, d2, d3, d4, d5] }
  | _ => none }
def FnExactDeriveCellsWrongFalsely : Prop := fnExactDeriveCellsRow.holds Try.pinned (OpenSpec.ofChange fnExactDeriveCellsWrong)

/- THE SECOND FORM. 'bulk': how many values and letters a reading holds, each counted each time it is reached (what is shared counts as often as it is met; a slice's spare places count too). A statement '..UptoSaid' is the law's where the arguments, and the package variables that the reading takes, are together of bulk at most 1048576: NARROWER than '..Said'. Prove '..Said' where nothing that the law and all that it calls make is longer than what came in: it says more and counts as full. Else prove '..UptoSaid'. A law counts once. -/
mutual
def uptoBulk {H : Type} : DataW H → Nat
  | .lit (.string bytes) => bytes.length + 1
  | .lit _ => 1
  | .nil => 1
  | .ptr d => uptoBulk d + 1
  | .slice elems spare => uptoBulkAll elems + uptoBulkAll spare + 1
  | .agg parts => uptoBulkAll parts + 1
  | .iface _ d => uptoBulk d + 1
  | .map entries => uptoBulkEntries entries + 1
  | .held _ => 1
def uptoBulkAll {H : Type} : List (DataW H) → Nat
  | [] => 0
  | d :: r => uptoBulk d + uptoBulkAll r
def uptoBulkEntries {H : Type} : List (Lit × DataW H) → Nat
  | [] => 0
  | x :: r => uptoBulkEntry x + uptoBulkEntries r
def uptoBulkEntry {H : Type} : Lit × DataW H → Nat
  | (.string bytes, d) => bytes.length + uptoBulk d + 1
  | (_, d) => uptoBulk d + 1
 end
def uptoSmall : (H : Type) → List (DataW H) → Bool := fun _ ds => decide (uptoBulkAll ds ≤ 1048576)
def OpenSpec.upto (s : _root_.Go.ChangeSpec) : _root_.Go.OpenSpec := { _root_.Go.OpenSpec.ofChange s with cond := some uptoSmall }

/-- 'laws.FnExactSourcesIn', WHERE WHAT IT READS IS OF BULK AT MOST 1048576: true; the input reads as it did. -/
def fnExactSourcesInUptoRow : OpenClaim := { program := "ytolmmhdeebgglaa", sum := "124539b1b08e7efe09c40445e3f89351a4a7d4b800a9537baf0061bccc3d07d9", func := "loop.example/g00908/laws.FnExactSourcesIn", spec := "fnExactSourcesIn", apart := false, narrowed := true }
def FnExactSourcesInUptoSaid : Prop := fnExactSourcesInUptoRow.holds Try.pinned (OpenSpec.upto fnExactSourcesInSpec)

/-- 'laws.FnExactLongestChain', WHERE WHAT IT READS IS OF BULK AT MOST 1048576: true; the input reads as it did. -/
def fnExactLongestChainUptoRow : OpenClaim := { program := "ytolmmhdeebgglaa", sum := "124539b1b08e7efe09c40445e3f89351a4a7d4b800a9537baf0061bccc3d07d9", func := "loop.example/g00908/laws.FnExactLongestChain", spec := "fnExactLongestChain", unfollowed := true, recurses := true, apart := false, narrowed := true }
def FnExactLongestChainUptoSaid : Prop := fnExactLongestChainUptoRow.holds Try.pinned (OpenSpec.upto fnExactLongestChainSpec)

/-- 'laws.FnExactDeriveCells', WHERE WHAT IT READS IS OF BULK AT MOST 1048576: true; the input reads as it did. -/
def fnExactDeriveCellsUptoRow : OpenClaim := { program := "ytolmmhdeebgglaa", sum := "124539b1b08e7efe09c40445e3f89351a4a7d4b800a9537baf0061bccc3d07d9", func := "loop.example/g00908/laws.FnExactDeriveCells", spec := "fnExactDeriveCells", apart := false, narrowed := true }
def FnExactDeriveCellsUptoSaid : Prop := fnExactDeriveCellsUptoRow.holds Try.pinned (OpenSpec.upto fnExactDeriveCellsSpec)

end Rows
end Go.Proofs.Ytolmmhdeebgglaa
