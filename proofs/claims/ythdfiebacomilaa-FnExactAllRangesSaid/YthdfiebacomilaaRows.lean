/-
  No cell of these rows narrows 'for every input' (looked for: loops, veiled, ifaces, maps, wideKeys, modest, calm, conditions, laid).
  DERIVED. THE GIVEN ROWS OF THIS SEAT. 10 by the template 'for every input the law returns true; each argument reads behind the call as it read before'; 0 by the template 'total and deterministic' (their statements: YthdfiebacomilaaTotals.lean).
  GIVEN WITH THE SEED: the statements are not yours to turn. If you find one false, say at which input.
  Laid BY PROGRAM, IN A SANDBOX (cutbox-rows.mjs): the forced cells as the released guide's own fill.sh prints them over the translation 7a55458f9ad00f73… (all of the seat's roots in one cut). By AI agents, Wed Nov 11 2026. No macro, syntax, notation, axiom, sorry.
-/
import Derived.Test.YthdfiebacomilaaChecked
import GoSem.Claim
import GoSem.ClaimJoined
import GoSem.ClaimMapViews
import Derived.JoinedTies
import Derived.KernelRfl
namespace Go.Proofs.Ythdfiebacomilaa
/- THE CELL 'sum', in the pinned program and in every row, IS THE sha256 OF THE DUMP (.gsa) THAT YthdfiebacomilaaProg.lean LOADS. Nothing in Lean hashes anything: it is a label: what it is worth is what the hold of that sum in a sandbox is worth. -/
noncomputable def Try.pinned : Pinned := { name := "ythdfiebacomilaa", sum := "7a55458f9ad00f739eddad80a07ef793bcb1adc6a01cd0463c3d7b045845d762", checked := Try.checked }
namespace Rows
def none {H : Type} : Left H := { results := [], args := [] }

/-- 'laws.FnExactCheckCut': WHATEVER THE INPUT: true; the input reads as it did. -/
def fnExactCheckCutSpec : ChangeSpec := { name := "fnExactCheckCut", fn := fun _ => fun
  | [d1, d2, d3] => { results := [.lit (.bool true)], args := [d1, d2, d3] }
  | _ => none }
def fnExactCheckCutRow : OpenClaim := { program := "ythdfiebacomilaa", sum := "7a55458f9ad00f739eddad80a07ef793bcb1adc6a01cd0463c3d7b045845d762", func := "loop.example/g00908/laws.FnExactCheckCut", spec := "fnExactCheckCut", apart := false }
def FnExactCheckCutSaid : Prop := fnExactCheckCutRow.holds Try.pinned (OpenSpec.ofChange fnExactCheckCutSpec)

/-- ITS FALSE NEIGHBOUR: 'it returns false'. Refute it at one input. -/
def fnExactCheckCutWrong : ChangeSpec := { name := "fnExactCheckCut", fn := fun _ => fun
  | [d1, d2, d3] => { results := [.lit (.bool false)], args := [d1, d2, d3] }
  | _ => none }
def FnExactCheckCutWrongFalsely : Prop := fnExactCheckCutRow.holds Try.pinned (OpenSpec.ofChange fnExactCheckCutWrong)

/-- 'laws.FnExactBestFill': WHATEVER THE INPUT: true; the input reads as it did. -/
def fnExactBestFillSpec : ChangeSpec := { name := "fnExactBestFill", fn := fun _ => fun
  | [d] => { results := [.lit (.bool true)], args := [d] }
  | _ => none }
def fnExactBestFillRow : OpenClaim := { program := "ythdfiebacomilaa", sum := "7a55458f9ad00f739eddad80a07ef793bcb1adc6a01cd0463c3d7b045845d762", func := "loop.example/g00908/laws.FnExactBestFill", spec := "fnExactBestFill", apart := false }
def FnExactBestFillSaid : Prop := fnExactBestFillRow.holds Try.pinned (OpenSpec.ofChange fnExactBestFillSpec)

/-- ITS FALSE NEIGHBOUR: 'it returns false'. Refute it at one input. -/
def fnExactBestFillWrong : ChangeSpec := { name := "fnExactBestFill", fn := fun _ => fun
  | [d] => { results := [.lit (.bool false)], args := [d] }
  | _ => none }
def FnExactBestFillWrongFalsely : Prop := fnExactBestFillRow.holds Try.pinned (OpenSpec.ofChange fnExactBestFillWrong)

/-- 'laws.FnExactHasFlow': WHATEVER THE INPUT: true; the input reads as it did. -/
def fnExactHasFlowSpec : ChangeSpec := { name := "fnExactHasFlow", fn := fun _ => fun
  | [d] => { results := [.lit (.bool true)], args := [d] }
  | _ => none }
def fnExactHasFlowRow : OpenClaim := { program := "ythdfiebacomilaa", sum := "7a55458f9ad00f739eddad80a07ef793bcb1adc6a01cd0463c3d7b045845d762", func := "loop.example/g00908/laws.FnExactHasFlow", spec := "fnExactHasFlow", apart := false }
def FnExactHasFlowSaid : Prop := fnExactHasFlowRow.holds Try.pinned (OpenSpec.ofChange fnExactHasFlowSpec)

/-- ITS FALSE NEIGHBOUR: 'it returns false'. Refute it at one input. -/
def fnExactHasFlowWrong : ChangeSpec := { name := "fnExactHasFlow", fn := fun _ => fun
  | [d] => { results := [.lit (.bool false)], args := [d] }
  | _ => none }
def FnExactHasFlowWrongFalsely : Prop := fnExactHasFlowRow.holds Try.pinned (OpenSpec.ofChange fnExactHasFlowWrong)

/-- 'laws.FnExactFindCut': WHATEVER THE INPUT: true; the input reads as it did. -/
def fnExactFindCutSpec : ChangeSpec := { name := "fnExactFindCut", fn := fun _ => fun
  | [d] => { results := [.lit (.bool true)], args := [d] }
  | _ => none }
def fnExactFindCutRow : OpenClaim := { program := "ythdfiebacomilaa", sum := "7a55458f9ad00f739eddad80a07ef793bcb1adc6a01cd0463c3d7b045845d762", func := "loop.example/g00908/laws.FnExactFindCut", spec := "fnExactFindCut", apart := false }
def FnExactFindCutSaid : Prop := fnExactFindCutRow.holds Try.pinned (OpenSpec.ofChange fnExactFindCutSpec)

/-- ITS FALSE NEIGHBOUR: 'it returns false'. Refute it at one input. -/
def fnExactFindCutWrong : ChangeSpec := { name := "fnExactFindCut", fn := fun _ => fun
  | [d] => { results := [.lit (.bool false)], args := [d] }
  | _ => none }
def FnExactFindCutWrongFalsely : Prop := fnExactFindCutRow.holds Try.pinned (OpenSpec.ofChange fnExactFindCutWrong)

/-- 'laws.FnExactCellRange': WHATEVER THE INPUT: true; the input reads as it did. -/
def fnExactCellRangeSpec : ChangeSpec := { name := "fnExactCellRange", fn := fun _ => fun
  | [d1, d2, d3] => { results := [.lit (.bool true)], args := [d1, d2, d3] }
  | _ => none }
def fnExactCellRangeRow : OpenClaim := { program := "ythdfiebacomilaa", sum := "7a55458f9ad00f739eddad80a07ef793bcb1adc6a01cd0463c3d7b045845d762", func := "loop.example/g00908/laws.FnExactCellRange", spec := "fnExactCellRange", unfollowed := true, recurses := true, apart := false }
def FnExactCellRangeSaid : Prop := fnExactCellRangeRow.holds Try.pinned (OpenSpec.ofChange fnExactCellRangeSpec)

/-- ITS FALSE NEIGHBOUR: 'it returns false'. Refute it at one input. -/
def fnExactCellRangeWrong : ChangeSpec := { name := "fnExactCellRange", fn := fun _ => fun
  | [d1, d2, d3] => { results := [.lit (.bool false)], args := [d1, d2, d3] }
  | _ => none }
def FnExactCellRangeWrongFalsely : Prop := fnExactCellRangeRow.holds Try.pinned (OpenSpec.ofChange fnExactCellRangeWrong)

/-- 'laws.FnExactFirstFlow': WHATEVER THE INPUT: true; the input reads as it did. -/
def fnExactFirstFlowSpec : ChangeSpec := { name := "fnExactFirstFlow", fn := fun _ => fun
  | [d] => { results := [.lit (.bool true)], args := [d] }
  | _ => none }
def fnExactFirstFlowRow : OpenClaim := { program := "ythdfiebacomilaa", sum := "7a55458f9ad00f739eddad80a07ef793bcb1adc6a01cd0463c3d7b045845d762", func := "loop.example/g00908/laws.FnExactFirstFlow", spec := "fnExactFirstFlow", apart := false }
def FnExactFirstFlowSaid : Prop := fnExactFirstFlowRow.holds Try.pinned (OpenSpec.ofChange fnExactFirstFlowSpec)

/-- ITS FALSE NEIGHBOUR: 'it returns false'. Refute it at one input. -/
def fnExactFirstFlowWrong : ChangeSpec := { name := "fnExactFirstFlow", fn := fun _ => fun
  | [d] => { results := [.lit (.bool false)], args := [d] }
  | _ => none }
def FnExactFirstFlowWrongFalsely : Prop := fnExactFirstFlowRow.holds Try.pinned (OpenSpec.ofChange fnExactFirstFlowWrong)

/-- 'laws.FnExactRoundingRange': WHATEVER THE INPUT: true; the input reads as it did. -/
def fnExactRoundingRangeSpec : ChangeSpec := { name := "fnExactRoundingRange", fn := fun _ => fun
  | [d1, d2, d3, d4] => { results := [.lit (.bool true)], args := [d1, d2, d3, d4] }
  | _ => none }
def fnExactRoundingRangeRow : OpenClaim := { program := "ythdfiebacomilaa", sum := "7a55458f9ad00f739eddad80a07ef793bcb1adc6a01cd0463c3d7b045845d762", func := "loop.example/g00908/laws.FnExactRoundingRange", spec := "fnExactRoundingRange", unfollowed := true, recurses := true, apart := false }
def FnExactRoundingRangeSaid : Prop := fnExactRoundingRangeRow.holds Try.pinned (OpenSpec.ofChange fnExactRoundingRangeSpec)

/-- ITS FALSE NEIGHBOUR: 'it returns false'. Refute it at one input. -/
def fnExactRoundingRangeWrong : ChangeSpec := { name := "fnExactRoundingRange", fn := fun _ => fun
  | [d1, d2, d3, d4] => { results := [.lit (.bool false)], args := [d1, d2, d3, d4] }
  | _ => none }
def FnExactRoundingRangeWrongFalsely : Prop := fnExactRoundingRangeRow.holds Try.pinned (OpenSpec.ofChange fnExactRoundingRangeWrong)

/-- 'laws.FnExactAllRanges': WHATEVER THE INPUT: true; the input reads as it did. -/
def fnExactAllRangesSpec : ChangeSpec := { name := "fnExactAllRanges", fn := fun _ => fun
  | [d] => { results := [.lit (.bool true)], args := [d] }
  | _ => none }
def fnExactAllRangesRow : OpenClaim := { program := "ythdfiebacomilaa", sum := "7a55458f9ad00f739eddad80a07ef793bcb1adc6a01cd0463c3d7b045845d762", func := "loop.example/g00908/laws.FnExactAllRanges", spec := "fnExactAllRanges", unfollowed := true, recurses := true, apart := false }
def FnExactAllRangesSaid : Prop := fnExactAllRangesRow.holds Try.pinned (OpenSpec.ofChange fnExactAllRangesSpec)

/-- ITS FALSE NEIGHBOUR: 'it returns false'. Refute it at one input. -/
def fnExactAllRangesWrong : ChangeSpec := { name := "fnExactAllRanges", fn := fun _ => fun
  | [d] => { results := [.lit (.bool false)], args := [d] }
  | _ => none }
def FnExactAllRangesWrongFalsely : Prop := fnExactAllRangesRow.holds Try.pinned (OpenSpec.ofChange fnExactAllRangesWrong)

/-- 'laws.FnExactNextFlow': WHATEVER THE INPUT: true; the input reads as it did. -/
def fnExactNextFlowSpec : ChangeSpec := { name := "fnExactNextFlow", fn := fun _ => fun
  | [d1, d2] => { results := [.lit (.bool true)], args := [d1, d2] }
  | _ => none }
def fnExactNextFlowRow : OpenClaim := { program := "ythdfiebacomilaa", sum := "7a55458f9ad00f739eddad80a07ef793bcb1adc6a01cd0463c3d7b045845d762", func := "loop.example/g00908/laws.FnExactNextFlow", spec := "fnExactNextFlow", apart := false }
def FnExactNextFlowSaid : Prop := fnExactNextFlowRow.holds Try.pinned (OpenSpec.ofChange fnExactNextFlowSpec)

/-- ITS FALSE NEIGHBOUR: 'it returns false'. Refute it at one input. -/
def fnExactNextFlowWrong : ChangeSpec := { name := "fnExactNextFlow", fn := fun _ => fun
  | [d1, d2] => { results := [.lit (.bool false)], args := [d1, d2] }
  | _ => none }
def FnExactNextFlowWrongFalsely : Prop := fnExactNextFlowRow.holds Try.pinned (OpenSpec.ofChange fnExactNextFlowWrong)

/-- 'laws.FnExactFirstRounding': WHATEVER THE INPUT: true; the input reads as it did. -/
def fnExactFirstRoundingSpec : ChangeSpec := { name := "fnExactFirstRounding", fn := fun _ => fun
  | [d1, d2] => { results := [.lit (.bool true)], args := [d1, d2] }
  | _ => none }
def fnExactFirstRoundingRow : OpenClaim := { program := "ythdfiebacomilaa", sum := "7a55458f9ad00f739eddad80a07ef793bcb1adc6a01cd0463c3d7b045845d762", func := "loop.example/g00908/laws.FnExactFirstRounding", spec := "fnExactFirstRounding", unfollowed := true, recurses := true, apart := false }
def FnExactFirstRoundingSaid : Prop := fnExactFirstRoundingRow.holds Try.pinned (OpenSpec.ofChange fnExactFirstRoundingSpec)

/-- ITS FALSE NEIGHBOUR: 'it returns false'. Refute it at one input. -/
def fnExactFirstRoundingWrong : ChangeSpec := { name := "fnExactFirstRounding", fn := fun _ => fun
  | [d1, d2] => { results := [.lit (.bool false)], args := [d1, d2] }
  | _ => none }
def FnExactFirstRoundingWrongFalsely : Prop := fnExactFirstRoundingRow.holds Try.pinned (OpenSpec.ofChange fnExactFirstRoundingWrong)

/- THE SECOND FORM. 'bulk': how many values and letters a reading holds, each counted each time it is reached (what is shared counts as often as it is met; a slice's spare places count too). A statement '..UptoSaid' is the law's where the arguments, and the package variables that the reading takes, are together of bulk at most 1048576: NARROWER than '..Said'. Prove '..Said' where nothing that the law and all that it calls make is longer than what came in: it says more and counts as full. Else prove '..UptoSaid'. A law counts once. -/
mutual
def uptoBulk {H : Type} : DataW H → Nat
  | .lit (.string bytes) => bytes.length + 1
  | .lit _ => 1
  | .nil => 1
  | .ptr d => uptoBulk d + 1
  | .slice elems spare => uptoBulkAll elems + uptoBulkAll spare + 1
  | .agg parts => uptoBulkAll parts + 1
  | .iface _ d => uptoBulk d + 1
  | .map entries => uptoBulkEntries entries + 1
  | .held _ => 1
def uptoBulkAll {H : Type} : List (DataW H) → Nat
  | [] => 0
  | d :: r => uptoBulk d + uptoBulkAll r
def uptoBulkEntries {H : Type} : List (Lit × DataW H) → Nat
  | [] => 0
  | x :: r => uptoBulkEntry x + uptoBulkEntries r
def uptoBulkEntry {H : Type} : Lit × DataW H → Nat
  | (.string bytes, d) => bytes.length + uptoBulk d + 1
  | (_, d) => uptoBulk d + 1
 end
def uptoSmall : (H : Type) → List (DataW H) → Bool := fun _ ds => decide (uptoBulkAll ds ≤ 1048576)
def OpenSpec.upto (s : _root_.Go.ChangeSpec) : _root_.Go.OpenSpec := { _root_.Go.OpenSpec.ofChange s with cond := some uptoSmall }

/-- 'laws.FnExactCheckCut', WHERE WHAT IT READS IS OF BULK AT MOST 1048576: true; the input reads as it did. -/
def fnExactCheckCutUptoRow : OpenClaim := { program := "ythdfiebacomilaa", sum := "7a55458f9ad00f739eddad80a07ef793bcb1adc6a01cd0463c3d7b045845d762", func := "loop.example/g00908/laws.FnExactCheckCut", spec := "fnExactCheckCut", apart := false, narrowed := true }
def FnExactCheckCutUptoSaid : Prop := fnExactCheckCutUptoRow.holds Try.pinned (OpenSpec.upto fnExactCheckCutSpec)

/-- 'laws.FnExactBestFill', WHERE WHAT IT READS IS OF BULK AT MOST 1048576: true; the input reads as it did. -/
def fnExactBestFillUptoRow : OpenClaim := { program := "ythdfiebacomilaa", sum := "7a55458f9ad00f739eddad80a07ef793bcb1adc6a01cd0463c3d7b045845d762", func := "loop.example/g00908/laws.FnExactBestFill", spec := "fnExactBestFill", apart := false, narrowed := true }
def FnExactBestFillUptoSaid : Prop := fnExactBestFillUptoRow.holds Try.pinned (OpenSpec.upto fnExactBestFillSpec)

/-- 'laws.FnExactHasFlow', WHERE WHAT IT READS IS OF BULK AT MOST 1048576: true; the input reads as it did. -/
def fnExactHasFlowUptoRow : OpenClaim := { program := "ythdfiebacomilaa", sum := "7a55458f9ad00f739eddad80a07ef793bcb1adc6a01cd0463c3d7b045845d762", func := "loop.example/g00908/laws.FnExactHasFlow", spec := "fnExactHasFlow", apart := false, narrowed := true }
def FnExactHasFlowUptoSaid : Prop := fnExactHasFlowUptoRow.holds Try.pinned (OpenSpec.upto fnExactHasFlowSpec)

/-- 'laws.FnExactFindCut', WHERE WHAT IT READS IS OF BULK AT MOST 1048576: true; the input reads as it did. -/
def fnExactFindCutUptoRow : OpenClaim := { program := "ythdfiebacomilaa", sum := "7a55458f9ad00f739eddad80a07ef793bcb1adc6a01cd0463c3d7b045845d762", func := "loop.example/g00908/laws.FnExactFindCut", spec := "fnExactFindCut", apart := false, narrowed := true }
def FnExactFindCutUptoSaid : Prop := fnExactFindCutUptoRow.holds Try.pinned (OpenSpec.upto fnExactFindCutSpec)

/-- 'laws.FnExactCellRange', WHERE WHAT IT READS IS OF BULK AT MOST 1048576: true; the input reads as it did. -/
def fnExactCellRangeUptoRow : OpenClaim := { program := "ythdfiebacomilaa", sum := "7a55458f9ad00f739eddad80a07ef793bcb1adc6a01cd0463c3d7b045845d762", func := "loop.example/g00908/laws.FnExactCellRange", spec := "fnExactCellRange", unfollowed := true, recurses := true, apart := false, narrowed := true }
def FnExactCellRangeUptoSaid : Prop := fnExactCellRangeUptoRow.holds Try.pinned (OpenSpec.upto fnExactCellRangeSpec)

/-- 'laws.FnExactFirstFlow', WHERE WHAT IT READS IS OF BULK AT MOST 1048576: true; the input reads as it did. -/
def fnExactFirstFlowUptoRow : OpenClaim := { program := "ythdfiebacomilaa", sum := "7a55458f9ad00f739eddad80a07ef793bcb1adc6a01cd0463c3d7b045845d762", func := "loop.example/g00908/laws.FnExactFirstFlow", spec := "fnExactFirstFlow", apart := false, narrowed := true }
def FnExactFirstFlowUptoSaid : Prop := fnExactFirstFlowUptoRow.holds Try.pinned (OpenSpec.upto fnExactFirstFlowSpec)

/-- 'laws.FnExactRoundingRange', WHERE WHAT IT READS IS OF BULK AT MOST 1048576: true; the input reads as it did. -/
def fnExactRoundingRangeUptoRow : OpenClaim := { program := "ythdfiebacomilaa", sum := "7a55458f9ad00f739eddad80a07ef793bcb1adc6a01cd0463c3d7b045845d762", func := "loop.example/g00908/laws.FnExactRoundingRange", spec := "fnExactRoundingRange", unfollowed := true, recurses := true, apart := false, narrowed := true }
def FnExactRoundingRangeUptoSaid : Prop := fnExactRoundingRangeUptoRow.holds Try.pinned (OpenSpec.upto fnExactRoundingRangeSpec)

/-- 'laws.FnExactAllRanges', WHERE WHAT IT READS IS OF BULK AT MOST 1048576: true; the input reads as it did. -/
def fnExactAllRangesUptoRow : OpenClaim := { program := "ythdfiebacomilaa", sum := "7a55458f9ad00f739eddad80a07ef793bcb1adc6a01cd0463c3d7b045845d762", func := "loop.example/g00908/laws.FnExactAllRanges", spec := "fnExactAllRanges", unfollowed := true, recurses := true, apart := false, narrowed := true }
def FnExactAllRangesUptoSaid : Prop := fnExactAllRangesUptoRow.holds Try.pinned (OpenSpec.upto fnExactAllRangesSpec)

/-- 'laws.FnExactNextFlow', WHERE WHAT IT READS IS OF BULK AT MOST 1048576: true; the input reads as it did. -/
def fnExactNextFlowUptoRow : OpenClaim := { program := "ythdfiebacomilaa", sum := "7a55458f9ad00f739eddad80a07ef793bcb1adc6a01cd0463c3d7b045845d762", func := "loop.example/g00908/laws.FnExactNextFlow", spec := "fnExactNextFlow", apart := false, narrowed := true }
def FnExactNextFlowUptoSaid : Prop := fnExactNextFlowUptoRow.holds Try.pinned (OpenSpec.upto fnExactNextFlowSpec)

/-- 'laws.FnExactFirstRounding', WHERE WHAT IT READS IS OF BULK AT MOST 1048576: true; the input reads as it did. -/
def fnExactFirstRoundingUptoRow : OpenClaim := { program := "ythdfiebacomilaa", sum := "7a55458f9ad00f739eddad80a07ef793bcb1adc6a01cd0463c3d7b045845d762", func := "loop.example/g00908/laws.FnExactFirstRounding", spec := "fnExactFirstRounding", unfollowed := true, recurses := true, apart := false, narrowed := true }
def FnExactFirstRoundingUptoSaid : Prop := fnExactFirstRoundingUptoRow.holds Try.pinned (OpenSpec.upto fnExactFirstRoundingSpec)

end Rows
end Go.Proofs.Ythdfiebacomilaa
