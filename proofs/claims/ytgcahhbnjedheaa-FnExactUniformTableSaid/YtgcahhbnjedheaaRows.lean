/-
  No cell of these rows narrows 'for every input' (looked for: loops, veiled, ifaces, maps, wideKeys, modest, calm, conditions, laid).
  DERIVED. THE GIVEN ROWS OF THIS SEAT. 6 by the template 'for every input the law returns true; each argument reads behind the call as it read before'; 0 by the template 'total and deterministic' (their statements: YtgcahhbnjedheaaTotals.lean).
  GIVEN WITH THE SEED: the statements are not yours to turn. If you find one false, say at which input.
  Laid BY PROGRAM, IN A SANDBOX (cutbox-rows.mjs): the forced cells as the released guide's own fill.sh prints them over the translation eda0621815449860… (all of the seat's roots in one cut). By AI agents, Wed Nov 11 2026. No macro, syntax, notation, axiom, sorry.
-/
import Derived.Test.YtgcahhbnjedheaaChecked
import GoSem.Claim
import GoSem.ClaimJoined
import GoSem.ClaimMapViews
import Derived.JoinedTies
import Derived.KernelRfl
namespace Go.Proofs.Ytgcahhbnjedheaa
/- THE CELL 'sum', in the pinned program and in every row, IS THE sha256 OF THE DUMP (.gsa) THAT YtgcahhbnjedheaaProg.lean LOADS. Nothing in Lean hashes anything: it is a label: what it is worth is what the hold of that sum in a sandbox is worth. -/
noncomputable def Try.pinned : Pinned := { name := "ytgcahhbnjedheaa", sum := "eda0621815449860cf14bf9af3cf1ecdd229db59be247c9a5e13479a1bcb7e03", checked := Try.checked }
namespace Rows
def none {H : Type} : Left H := { results := [], args := [] }

/-- 'laws.FnExactCellKey': WHATEVER THE INPUT: true; the input reads as it did. -/
def fnExactCellKeySpec : ChangeSpec := { name := "fnExactCellKey", fn := fun _ => fun
  | [d] => { results := [.lit (.bool true)], args := [d] }
  | _ => none }
def fnExactCellKeyRow : OpenClaim := { program := "ytgcahhbnjedheaa", sum := "eda0621815449860cf14bf9af3cf1ecdd229db59be247c9a5e13479a1bcb7e03", func := "loop.example/g00908/laws.FnExactCellKey", spec := "fnExactCellKey", apart := false }
def FnExactCellKeySaid : Prop := fnExactCellKeyRow.holds Try.pinned (OpenSpec.ofChange fnExactCellKeySpec)

/-- ITS FALSE NEIGHBOUR: 'it returns false'. Refute it at one input. -/
def fnExactCellKeyWrong : ChangeSpec := { name := "fnExactCellKey", fn := fun _ => fun
  | [d] => { results := [.lit (.bool false)], args := [d] }
  | _ => none }
def FnExactCellKeyWrongFalsely : Prop := fnExactCellKeyRow.holds Try.pinned (OpenSpec.ofChange fnExactCellKeyWrong)

/-- 'laws.FnExactUniformTable': WHATEVER THE INPUT: true; the input reads as it did. -/
def fnExactUniformTableSpec : ChangeSpec := { name := "fnExactUniformTable", fn := fun _ => fun
  | [d] => { results := [.lit (.bool true)], args := [d] }
  | _ => none }
def fnExactUniformTableRow : OpenClaim := { program := "ytgcahhbnjedheaa", sum := "eda0621815449860cf14bf9af3cf1ecdd229db59be247c9a5e13479a1bcb7e03", func := "loop.example/g00908/laws.FnExactUniformTable", spec := "fnExactUniformTable", apart := false }
def FnExactUniformTableSaid : Prop := fnExactUniformTableRow.holds Try.pinned (OpenSpec.ofChange fnExactUniformTableSpec)

/-- ITS FALSE NEIGHBOUR: 'it returns false'. Refute it at one input. -/
def fnExactUniformTableWrong : ChangeSpec := { name := "fnExactUniformTable", fn := fun _ => fun
  | [d] => { results := [.lit (.bool false)], args := [d] }
  | _ => none }
def FnExactUniformTableWrongFalsely : Prop := fnExactUniformTableRow.holds Try.pinned (OpenSpec.ofChange fnExactUniformTableWrong)

/-- 'laws.FnExactIsTwoWay': WHATEVER THE INPUT: true; the input reads as it did. -/
def fnExactIsTwoWaySpec : ChangeSpec := { name := "fnExactIsTwoWay", fn := fun _ => fun
  | [d] => { results := [.lit (.bool true)], args := [d] }
  | _ => none }
def fnExactIsTwoWayRow : OpenClaim := { program := "ytgcahhbnjedheaa", sum := "eda0621815449860cf14bf9af3cf1ecdd229db59be247c9a5e13479a1bcb7e03", func := "loop.example/g00908/laws.FnExactIsTwoWay", spec := "fnExactIsTwoWay", apart := false }
def FnExactIsTwoWaySaid : Prop := fnExactIsTwoWayRow.holds Try.pinned (OpenSpec.ofChange fnExactIsTwoWaySpec)

/-- ITS FALSE NEIGHBOUR: 'it returns false'. Refute it at one input. -/
def fnExactIsTwoWayWrong : ChangeSpec := { name := "fnExactIsTwoWay", fn := fun _ => fun
  | [d] => { results := [.lit (.bool false)], args := [d] }
  | _ => none }
def FnExactIsTwoWayWrongFalsely : Prop := fnExactIsTwoWayRow.holds Try.pinned (OpenSpec.ofChange fnExactIsTwoWayWrong)

/-- 'laws.FnExactIsNoiseTable': WHATEVER THE INPUT: true; the input reads as it did. -/
def fnExactIsNoiseTableSpec : ChangeSpec := { name := "fnExactIsNoiseTable", fn := fun _ => fun
  | [d] => { results := [.lit (.bool true)], args := [d] }
  | _ => none }
def fnExactIsNoiseTableRow : OpenClaim := { program := "ytgcahhbnjedheaa", sum := "eda0621815449860cf14bf9af3cf1ecdd229db59be247c9a5e13479a1bcb7e03", func := "loop.example/g00908/laws.FnExactIsNoiseTable", spec := "fnExactIsNoiseTable", apart := false }
def FnExactIsNoiseTableSaid : Prop := fnExactIsNoiseTableRow.holds Try.pinned (OpenSpec.ofChange fnExactIsNoiseTableSpec)

/-- ITS FALSE NEIGHBOUR: 'it returns false'. Refute it at one input. -/
def fnExactIsNoiseTableWrong : ChangeSpec := { name := "fnExactIsNoiseTable", fn := fun _ => fun
  | [d] => { results := [.lit (.bool false)], args := [d] }
  | _ => none }
def FnExactIsNoiseTableWrongFalsely : Prop := fnExactIsNoiseTableRow.holds Try.pinned (OpenSpec.ofChange fnExactIsNoiseTableWrong)

/-- 'laws.FnExactIsPattern': WHATEVER THE INPUT: true; the input reads as it did. -/
def fnExactIsPatternSpec : ChangeSpec := { name := "fnExactIsPattern", fn := fun _ => fun
  | [d1, d2] => { results := [.lit (.bool true)], args := [d1, d2] }
  | _ => none }
def fnExactIsPatternRow : OpenClaim := { program := "ytgcahhbnjedheaa", sum := "eda0621815449860cf14bf9af3cf1ecdd229db59be247c9a5e13479a1bcb7e03", func := "loop.example/g00908/laws.FnExactIsPattern", spec := "fnExactIsPattern", apart := false }
def FnExactIsPatternSaid : Prop := fnExactIsPatternRow.holds Try.pinned (OpenSpec.ofChange fnExactIsPatternSpec)

/-- ITS FALSE NEIGHBOUR: 'it returns false'. Refute it at one input. -/
def fnExactIsPatternWrong : ChangeSpec := { name := "fnExactIsPattern", fn := fun _ => fun
  | [d1, d2] => { results := [.lit (.bool false)], args := [d1, d2] }
  | _ => none }
def FnExactIsPatternWrongFalsely : Prop := fnExactIsPatternRow.holds Try.pinned (OpenSpec.ofChange fnExactIsPatternWrong)

/-- 'laws.FnExactNoiseOf': WHATEVER THE INPUT: true; the input reads as it did. -/
def fnExactNoiseOfSpec : ChangeSpec := { name := "fnExactNoiseOf", fn := fun _ => fun
  | [d1, d2, d3] => { results := [.lit (.bool true)], args := [d1, d2, d3] }
  | _ => none }
def fnExactNoiseOfRow : OpenClaim := { program := "ytgcahhbnjedheaa", sum := "eda0621815449860cf14bf9af3cf1ecdd229db59be247c9a5e13479a1bcb7e03", func := "loop.example/g00908/laws.FnExactNoiseOf", spec := "fnExactNoiseOf", apart := false }
def FnExactNoiseOfSaid : Prop := fnExactNoiseOfRow.holds Try.pinned (OpenSpec.ofChange fnExactNoiseOfSpec)

/-- ITS FALSE NEIGHBOUR: 'it returns false'. Refute it at one input. -/
def fnExactNoiseOfWrong : ChangeSpec := { name := "fnExactNoiseOf", fn := fun _ => fun
  | [d1, d2, d3] => { results := [.lit (.bool false)], args := [d1, d2, d3] }
  | _ => none }
def FnExactNoiseOfWrongFalsely : Prop := fnExactNoiseOfRow.holds Try.pinned (OpenSpec.ofChange fnExactNoiseOfWrong)

/- THE SECOND FORM. 'bulk': how many values and letters a reading holds, each counted each time it is reached (what is shared counts as often as it is met; a slice's spare places count too). A statement '..UptoSaid' is the law's where the arguments, and the package variables that the reading takes, are together of bulk at most 1048576: NARROWER than '..Said'. Prove '..Said' where nothing that the law and all that it calls make is longer than what came in: it says more and counts as full. Else prove '..UptoSaid'. A law counts once. -/
mutual
def uptoBulk {H : Type} : DataW H → Nat
  | .lit (.string bytes) => bytes.length + 1
  | .lit _ => 1
  | .nil => 1
  | .ptr d => uptoBulk d + 1
  | .slice elems spare => uptoBulkAll elems + uptoBulkAll spare + 1
  | .agg parts => uptoBulkAll parts + 1
  | .iface _ d => uptoBulk d + 1
  | .map entries => uptoBulkEntries entries + 1
  | .held _ => 1
def uptoBulkAll {H : Type} : List (DataW H) → Nat
  | [] => 0
  | d :: r => uptoBulk d + uptoBulkAll r
def uptoBulkEntries {H : Type} : List (Lit × DataW H) → Nat
  | [] => 0
  | x :: r => uptoBulkEntry x + uptoBulkEntries r
def uptoBulkEntry {H : Type} : Lit × DataW H → Nat
  | (.string bytes, d) => bytes.length + uptoBulk d + 1
  | (_, d) => uptoBulk d + 1
 end
def uptoSmall : (H : Type) → List (DataW H) → Bool := fun _ ds => decide (uptoBulkAll ds ≤ 1048576)
def OpenSpec.upto (s : _root_.Go.ChangeSpec) : _root_.Go.OpenSpec := { _root_.Go.OpenSpec.ofChange s with cond := some uptoSmall }

/-- 'laws.FnExactCellKey', WHERE WHAT IT READS IS OF BULK AT MOST 1048576: true; the input reads as it did. -/
def fnExactCellKeyUptoRow : OpenClaim := { program := "ytgcahhbnjedheaa", sum := "eda0621815449860cf14bf9af3cf1ecdd229db59be247c9a5e13479a1bcb7e03", func := "loop.example/g00908/laws.FnExactCellKey", spec := "fnExactCellKey", apart := false, narrowed := true }
def FnExactCellKeyUptoSaid : Prop := fnExactCellKeyUptoRow.holds Try.pinned (OpenSpec.upto fnExactCellKeySpec)

/-- 'laws.FnExactUniformTable', WHERE WHAT IT READS IS OF BULK AT MOST 1048576: true; the input reads as it did. -/
def fnExactUniformTableUptoRow : OpenClaim := { program := "ytgcahhbnjedheaa", sum := "eda0621815449860cf14bf9af3cf1ecdd229db59be247c9a5e13479a1bcb7e03", func := "loop.example/g00908/laws.FnExactUniformTable", spec := "fnExactUniformTable", apart := false, narrowed := true }
def FnExactUniformTableUptoSaid : Prop := fnExactUniformTableUptoRow.holds Try.pinned (OpenSpec.upto fnExactUniformTableSpec)

/-- 'laws.FnExactIsTwoWay', WHERE WHAT IT READS IS OF BULK AT MOST 1048576: true; the input reads as it did. -/
def fnExactIsTwoWayUptoRow : OpenClaim := { program := "ytgcahhbnjedheaa", sum := "eda0621815449860cf14bf9af3cf1ecdd229db59be247c9a5e13479a1bcb7e03", func := "loop.example/g00908/laws.FnExactIsTwoWay", spec := "fnExactIsTwoWay", apart := false, narrowed := true }
def FnExactIsTwoWayUptoSaid : Prop := fnExactIsTwoWayUptoRow.holds Try.pinned (OpenSpec.upto fnExactIsTwoWaySpec)

/-- 'laws.FnExactIsNoiseTable', WHERE WHAT IT READS IS OF BULK AT MOST 1048576: true; the input reads as it did. -/
def fnExactIsNoiseTableUptoRow : OpenClaim := { program := "ytgcahhbnjedheaa", sum := "eda0621815449860cf14bf9af3cf1ecdd229db59be247c9a5e13479a1bcb7e03", func := "loop.example/g00908/laws.FnExactIsNoiseTable", spec := "fnExactIsNoiseTable", apart := false, narrowed := true }
def FnExactIsNoiseTableUptoSaid : Prop := fnExactIsNoiseTableUptoRow.holds Try.pinned (OpenSpec.upto fnExactIsNoiseTableSpec)

/-- 'laws.FnExactIsPattern', WHERE WHAT IT READS IS OF BULK AT MOST 1048576: true; the input reads as it did. -/
def fnExactIsPatternUptoRow : OpenClaim := { program := "ytgcahhbnjedheaa", sum := "eda0621815449860cf14bf9af3cf1ecdd229db59be247c9a5e13479a1bcb7e03", func := "loop.example/g00908/laws.FnExactIsPattern", spec := "fnExactIsPattern", apart := false, narrowed := true }
def FnExactIsPatternUptoSaid : Prop := fnExactIsPatternUptoRow.holds Try.pinned (OpenSpec.upto fnExactIsPatternSpec)

/-- 'laws.FnExactNoiseOf', WHERE WHAT IT READS IS OF BULK AT MOST 1048576: true; the input reads as it did. -/
def fnExactNoiseOfUptoRow : OpenClaim := { program := "ytgcahhbnjedheaa", sum := "eda0621815449860cf14bf9af3cf1ecdd229db59be247c9a5e13479a1bcb7e03", func := "loop.example/g00908/laws.FnExactNoiseOf", spec := "fnExactNoiseOf", apart := false, narrowed := true }
def FnExactNoiseOfUptoSaid : Prop := fnExactNoiseOfUptoRow.holds Try.pinned (OpenSpec.upto fnExactNoiseOfSpec)

end Rows
end Go.Proofs.Ytgcahhbnjedheaa
