/-
  No cell of these rows narrows 'for every input' (looked for: loops, veiled, ifaces, maps, wideKeys, modest, calm, conditions, laid).
  DERIVED. THE GIVEN ROWS OF THIS SEAT. 9 by the template 'for every input the law returns true; each argument reads behind the call as it read before'; 0 by the template 'total and deterministic' (their statements: YtkkoidoinbiikaaTotals.lean).
  GIVEN WITH THE SEED: the statements are not yours to turn. If you find one false, say at which input.
  Laid BY PROGRAM, IN A SANDBOX (cutbox-rows.mjs): the forced cells as the released guide's own fill.sh prints them over the translation bcff645d7d6b924f… (all of the seat's roots in one cut). By AI agents, Wed Nov 11 2026. No macro, syntax, notation, axiom, sorry.
-/
import Derived.Test.YtkkoidoinbiikaaChecked
import GoSem.Claim
import GoSem.ClaimJoined
import GoSem.ClaimMapViews
import Derived.JoinedTies
import Derived.KernelRfl
namespace Go.Proofs.Ytkkoidoinbiikaa
/- THE CELL 'sum', in the pinned program and in every row, IS THE sha256 OF THE DUMP (.gsa) THAT YtkkoidoinbiikaaProg.lean LOADS. Nothing in Lean hashes anything: it is a label: what it is worth is what the hold of that sum in a sandbox is worth. -/
noncomputable def Try.pinned : Pinned := { name := "ytkkoidoinbiikaa", sum := "bcff645d7d6b924f39acb71b48435f473a42decf74545ec283556284a04049ba", checked := Try.checked }
namespace Rows
def none {H : Type} : Left H := { results := [], args := [] }

/-- 'laws.FnExactGreatestSwaps': WHATEVER THE INPUT: true; the input reads as it did. -/
def fnExactGreatestSwapsSpec : ChangeSpec := { name := "fnExactGreatestSwaps", fn := fun _ => fun
  | [d1, d2, d3] => { results := [.lit (.bool true)], args := [d1, d2, d3] }
  | _ => none }
def fnExactGreatestSwapsRow : OpenClaim := { program := "ytkkoidoinbiikaa", sum := "bcff645d7d6b924f39acb71b48435f473a42decf74545ec283556284a04049ba", func := "loop.example/g00908/laws.FnExactGreatestSwaps", spec := "fnExactGreatestSwaps", recurses := true, plainKeys := false, apart := false }
def FnExactGreatestSwapsSaid : Prop := fnExactGreatestSwapsRow.holds Try.pinned (OpenSpec.ofChange fnExactGreatestSwapsSpec)

/-- ITS FALSE NEIGHBOUR: 'it returns false'. Refute it at one input. -/
def fnExactGreatestSwapsWrong : ChangeSpec := { name := "fnExactGreatestSwaps", fn := fun _ => fun
  | [d1, d2, d3] => { results := [.lit (.bool false)], args := [d1, d2, d3] }
  | _ => none }
def FnExactGreatestSwapsWrongFalsely : Prop := fnExactGreatestSwapsRow.holds Try.pinned (OpenSpec.ofChange fnExactGreatestSwapsWrong)

/-- 'laws.FnExactKeyGroups': WHATEVER THE INPUT: true; the input reads as it did. -/
def fnExactKeyGroupsSpec : ChangeSpec := { name := "fnExactKeyGroups", fn := fun _ => fun
  | [d1, d2, d3] => { results := [.lit (.bool true)], args := [d1, d2, d3] }
  | _ => none }
def fnExactKeyGroupsRow : OpenClaim := { program := "ytkkoidoinbiikaa", sum := "bcff645d7d6b924f39acb71b48435f473a42decf74545ec283556284a04049ba", func := "loop.example/g00908/laws.FnExactKeyGroups", spec := "fnExactKeyGroups", recurses := true, plainKeys := false, apart := false }
def FnExactKeyGroupsSaid : Prop := fnExactKeyGroupsRow.holds Try.pinned (OpenSpec.ofChange fnExactKeyGroupsSpec)

/-- ITS FALSE NEIGHBOUR: 'it returns false'. Refute it at one input. -/
def fnExactKeyGroupsWrong : ChangeSpec := { name := "fnExactKeyGroups", fn := fun _ => fun
  | [d1, d2, d3] => { results := [.lit (.bool false)], args := [d1, d2, d3] }
  | _ => none }
def FnExactKeyGroupsWrongFalsely : Prop := fnExactKeyGroupsRow.holds Try.pinned (OpenSpec.ofChange fnExactKeyGroupsWrong)

/-- 'laws.FnExactKeyOf': WHATEVER THE INPUT: true; the input reads as it did. -/
def fnExactKeyOfSpec : ChangeSpec := { name := "fnExactKeyOf", fn := fun _ => fun
  | [d1, d2, d3] => { results := [.lit (.bool true)], args := [d1, d2, d3] }
  | _ => none }
def fnExactKeyOfRow : OpenClaim := { program := "ytkkoidoinbiikaa", sum := "bcff645d7d6b924f39acb71b48435f473a42decf74545ec283556284a04049ba", func := "loop.example/g00908/laws.FnExactKeyOf", spec := "fnExactKeyOf", plainKeys := false, apart := false }
def FnExactKeyOfSaid : Prop := fnExactKeyOfRow.holds Try.pinned (OpenSpec.ofChange fnExactKeyOfSpec)

/-- ITS FALSE NEIGHBOUR: 'it returns false'. Refute it at one input. -/
def fnExactKeyOfWrong : ChangeSpec := { name := "fnExactKeyOf", fn := fun _ => fun
  | [d1, d2, d3] => { results := [.lit (.bool false)], args := [d1, d2, d3] }
  | _ => none }
def FnExactKeyOfWrongFalsely : Prop := fnExactKeyOfRow.holds Try.pinned (OpenSpec.ofChange fnExactKeyOfWrong)

/-- 'laws.FnExactKeepsCounts': WHATEVER THE INPUT: true; the input reads as it did. -/
def fnExactKeepsCountsSpec : ChangeSpec := { name := "fnExactKeepsCounts", fn := fun _ => fun
  | [d1, d2, d3, d4] => { results := [.lit (.bool true)], args := [d1, d2, d3, d4] }
  | _ => none }
def fnExactKeepsCountsRow : OpenClaim := { program := "ytkkoidoinbiikaa", sum := "bcff645d7d6b924f39acb71b48435f473a42decf74545ec283556284a04049ba", func := "loop.example/g00908/laws.FnExactKeepsCounts", spec := "fnExactKeepsCounts", plainKeys := false, apart := false }
def FnExactKeepsCountsSaid : Prop := fnExactKeepsCountsRow.holds Try.pinned (OpenSpec.ofChange fnExactKeepsCountsSpec)

/-- ITS FALSE NEIGHBOUR: 'it returns false'. Refute it at one input. -/
def fnExactKeepsCountsWrong : ChangeSpec := { name := "fnExactKeepsCounts", fn := fun _ => fun
  | [d1, d2, d3, d4] => { results := [.lit (.bool false)], args := [d1, d2, d3, d4] }
  | _ => none }
def FnExactKeepsCountsWrongFalsely : Prop := fnExactKeepsCountsRow.holds Try.pinned (OpenSpec.ofChange fnExactKeepsCountsWrong)

/-- 'laws.FnExactMovedRecords': WHATEVER THE INPUT: true; the input reads as it did. -/
def fnExactMovedRecordsSpec : ChangeSpec := { name := "fnExactMovedRecords", fn := fun _ => fun
  | [d1, d2, d3] => { results := [.lit (.bool true)], args := [d1, d2, d3] }
  | _ => none }
def fnExactMovedRecordsRow : OpenClaim := { program := "ytkkoidoinbiikaa", sum := "bcff645d7d6b924f39acb71b48435f473a42decf74545ec283556284a04049ba", func := "loop.example/g00908/laws.FnExactMovedRecords", spec := "fnExactMovedRecords", plainKeys := false, apart := false }
def FnExactMovedRecordsSaid : Prop := fnExactMovedRecordsRow.holds Try.pinned (OpenSpec.ofChange fnExactMovedRecordsSpec)

/-- ITS FALSE NEIGHBOUR: 'it returns false'. Refute it at one input. -/
def fnExactMovedRecordsWrong : ChangeSpec := { name := "fnExactMovedRecords", fn := fun _ => fun
  | [d1, d2, d3] => { results := [.lit (.bool false)], args := [d1, d2, d3] }
  | _ => none }
def FnExactMovedRecordsWrongFalsely : Prop := fnExactMovedRecordsRow.holds Try.pinned (OpenSpec.ofChange fnExactMovedRecordsWrong)

/-- 'laws.FnExactIsSwapPlan': WHATEVER THE INPUT: true; the input reads as it did. -/
def fnExactIsSwapPlanSpec : ChangeSpec := { name := "fnExactIsSwapPlan", fn := fun _ => fun
  | [d1, d2, d3, d4] => { results := [.lit (.bool true)], args := [d1, d2, d3, d4] }
  | _ => none }
def fnExactIsSwapPlanRow : OpenClaim := { program := "ytkkoidoinbiikaa", sum := "bcff645d7d6b924f39acb71b48435f473a42decf74545ec283556284a04049ba", func := "loop.example/g00908/laws.FnExactIsSwapPlan", spec := "fnExactIsSwapPlan", plainKeys := false, apart := false }
def FnExactIsSwapPlanSaid : Prop := fnExactIsSwapPlanRow.holds Try.pinned (OpenSpec.ofChange fnExactIsSwapPlanSpec)

/-- ITS FALSE NEIGHBOUR: 'it returns false'. Refute it at one input. -/
def fnExactIsSwapPlanWrong : ChangeSpec := { name := "fnExactIsSwapPlan", fn := fun _ => fun
  | [d1, d2, d3, d4] => { results := [.lit (.bool false)], args := [d1, d2, d3, d4] }
  | _ => none }
def FnExactIsSwapPlanWrongFalsely : Prop := fnExactIsSwapPlanRow.holds Try.pinned (OpenSpec.ofChange fnExactIsSwapPlanWrong)

/-- 'laws.FnExactSwapRate': WHATEVER THE INPUT: true; the input reads as it did. -/
def fnExactSwapRateSpec : ChangeSpec := { name := "fnExactSwapRate", fn := fun _ => fun
  | [d1, d2, d3] => { results := [.lit (.bool true)], args := [d1, d2, d3] }
  | _ => none }
def fnExactSwapRateRow : OpenClaim := { program := "ytkkoidoinbiikaa", sum := "bcff645d7d6b924f39acb71b48435f473a42decf74545ec283556284a04049ba", func := "loop.example/g00908/laws.FnExactSwapRate", spec := "fnExactSwapRate", plainKeys := false, apart := false }
def FnExactSwapRateSaid : Prop := fnExactSwapRateRow.holds Try.pinned (OpenSpec.ofChange fnExactSwapRateSpec)

/-- ITS FALSE NEIGHBOUR: 'it returns false'. Refute it at one input. -/
def fnExactSwapRateWrong : ChangeSpec := { name := "fnExactSwapRate", fn := fun _ => fun
  | [d1, d2, d3] => { results := [.lit (.bool false)], args := [d1, d2, d3] }
  | _ => none }
def FnExactSwapRateWrongFalsely : Prop := fnExactSwapRateRow.holds Try.pinned (OpenSpec.ofChange fnExactSwapRateWrong)

/-- 'laws.FnExactSwapCandidates': WHATEVER THE INPUT: true; the input reads as it did. -/
def fnExactSwapCandidatesSpec : ChangeSpec := { name := "fnExactSwapCandidates", fn := fun _ => fun
  | [d1, d2, d3] => { results := [.lit (.bool true)], args := [d1, d2, d3] }
  | _ => none }
def fnExactSwapCandidatesRow : OpenClaim := { program := "ytkkoidoinbiikaa", sum := "bcff645d7d6b924f39acb71b48435f473a42decf74545ec283556284a04049ba", func := "loop.example/g00908/laws.FnExactSwapCandidates", spec := "fnExactSwapCandidates", plainKeys := false, apart := false }
def FnExactSwapCandidatesSaid : Prop := fnExactSwapCandidatesRow.holds Try.pinned (OpenSpec.ofChange fnExactSwapCandidatesSpec)

/-- ITS FALSE NEIGHBOUR: 'it returns false'. Refute it at one input. -/
def fnExactSwapCandidatesWrong : ChangeSpec := { name := "fnExactSwapCandidates", fn := fun _ => fun
  | [d1, d2, d3] => { results := [.lit (.bool false)], args := [d1, d2, d3] }
  | _ => none }
def FnExactSwapCandidatesWrongFalsely : Prop := fnExactSwapCandidatesRow.holds Try.pinned (OpenSpec.ofChange fnExactSwapCandidatesWrong)

/-- 'laws.FnExactApplySwaps': WHATEVER THE INPUT: true; the input reads as it did. -/
def fnExactApplySwapsSpec : ChangeSpec := { name := "fnExactApplySwaps", fn := fun _ => fun
  | [d1, d2, d3] => { results := [.lit (.bool true)], args := [d1, d2, d3] }
  | _ => none }
def fnExactApplySwapsRow : OpenClaim := { program := "ytkkoidoinbiikaa", sum := "bcff645d7d6b924f39acb71b48435f473a42decf74545ec283556284a04049ba", func := "loop.example/g00908/laws.FnExactApplySwaps", spec := "fnExactApplySwaps", plainKeys := false, apart := false }
def FnExactApplySwapsSaid : Prop := fnExactApplySwapsRow.holds Try.pinned (OpenSpec.ofChange fnExactApplySwapsSpec)

/-- ITS FALSE NEIGHBOUR: 'it returns false'. Refute it at one input. -/
def fnExactApplySwapsWrong : ChangeSpec := { name := "fnExactApplySwaps", fn := fun _ => fun
  | [d1, d2, d3] => { results := [.lit (.bool false)], args := [d1, d2, d3] }
  | _ => none }
def FnExactApplySwapsWrongFalsely : Prop := fnExactApplySwapsRow.holds Try.pinned (OpenSpec.ofChange fnExactApplySwapsWrong)

/- THE SECOND FORM. 'bulk': how many values and letters a reading holds, each counted each time it is reached (what is shared counts as often as it is met; a slice's spare places count too). A statement '..UptoSaid' is the law's where the arguments, and the package variables that the reading takes, are together of bulk at most 1048576: NARROWER than '..Said'. Prove '..Said' where nothing that the law and all that it calls make is longer than what came in: it says more and counts as full. Else prove '..UptoSaid'. A law counts once. -/
mutual
def uptoBulk {H : Type} : DataW H → Nat
  | .lit (.string bytes) => bytes.length + 1
  | .lit _ => 1
  | .nil => 1
  | .ptr d => uptoBulk d + 1
  | .slice elems spare => uptoBulkAll elems + uptoBulkAll spare + 1
  | .agg parts => uptoBulkAll parts + 1
  | .iface _ d => uptoBulk d + 1
  | .map entries => uptoBulkEntries entries + 1
  | .held _ => 1
def uptoBulkAll {H : Type} : List (DataW H) → Nat
  | [] => 0
  | d :: r => uptoBulk d + uptoBulkAll r
def uptoBulkEntries {H : Type} : List (Lit × DataW H) → Nat
  | [] => 0
  | x :: r => uptoBulkEntry x + uptoBulkEntries r
def uptoBulkEntry {H : Type} : Lit × DataW H → Nat
  | (.string bytes, d) => bytes.length + uptoBulk d + 1
  | (_, d) => uptoBulk d + 1
 end
def uptoSmall : (H : Type) → List (DataW H) → Bool := fun _ ds => decide (uptoBulkAll ds ≤ 1048576)
def OpenSpec.upto (s : _root_.Go.ChangeSpec) : _root_.Go.OpenSpec := { _root_.Go.OpenSpec.ofChange s with cond := some uptoSmall }

/-- 'laws.FnExactGreatestSwaps', WHERE WHAT IT READS IS OF BULK AT MOST 1048576: true; the input reads as it did. -/
def fnExactGreatestSwapsUptoRow : OpenClaim := { program := "ytkkoidoinbiikaa", sum := "bcff645d7d6b924f39acb71b48435f473a42decf74545ec283556284a04049ba", func := "loop.example/g00908/laws.FnExactGreatestSwaps", spec := "fnExactGreatestSwaps", recurses := true, plainKeys := false, apart := false, narrowed := true }
def FnExactGreatestSwapsUptoSaid : Prop := fnExactGreatestSwapsUptoRow.holds Try.pinned (OpenSpec.upto fnExactGreatestSwapsSpec)

/-- 'laws.FnExactKeyGroups', WHERE WHAT IT READS IS OF BULK AT MOST 1048576: true; the input reads as it did. -/
def fnExactKeyGroupsUptoRow : OpenClaim := { program := "ytkkoidoinbiikaa", sum := "bcff645d7d6b924f39acb71b48435f473a42decf74545ec283556284a04049ba", func := "loop.example/g00908/laws.FnExactKeyGroups", spec := "fnExactKeyGroups", recurses := true, plainKeys := false, apart := false, narrowed := true }
def FnExactKeyGroupsUptoSaid : Prop := fnExactKeyGroupsUptoRow.holds Try.pinned (OpenSpec.upto fnExactKeyGroupsSpec)

/-- 'laws.FnExactKeyOf', WHERE WHAT IT READS IS OF BULK AT MOST 1048576: true; the input reads as it did. -/
def fnExactKeyOfUptoRow : OpenClaim := { program := "ytkkoidoinbiikaa", sum := "bcff645d7d6b924f39acb71b48435f473a42decf74545ec283556284a04049ba", func := "loop.example/g00908/laws.FnExactKeyOf", spec := "fnExactKeyOf", plainKeys := false, apart := false, narrowed := true }
def FnExactKeyOfUptoSaid : Prop := fnExactKeyOfUptoRow.holds Try.pinned (OpenSpec.upto fnExactKeyOfSpec)

/-- 'laws.FnExactKeepsCounts', WHERE WHAT IT READS IS OF BULK AT MOST 1048576: true; the input reads as it did. -/
def fnExactKeepsCountsUptoRow : OpenClaim := { program := "ytkkoidoinbiikaa", sum := "bcff645d7d6b924f39acb71b48435f473a42decf74545ec283556284a04049ba", func := "loop.example/g00908/laws.FnExactKeepsCounts", spec := "fnExactKeepsCounts", plainKeys := false, apart := false, narrowed := true }
def FnExactKeepsCountsUptoSaid : Prop := fnExactKeepsCountsUptoRow.holds Try.pinned (OpenSpec.upto fnExactKeepsCountsSpec)

/-- 'laws.FnExactMovedRecords', WHERE WHAT IT READS IS OF BULK AT MOST 1048576: true; the input reads as it did. -/
def fnExactMovedRecordsUptoRow : OpenClaim := { program := "ytkkoidoinbiikaa", sum := "bcff645d7d6b924f39acb71b48435f473a42decf74545ec283556284a04049ba", func := "loop.example/g00908/laws.FnExactMovedRecords", spec := "fnExactMovedRecords", plainKeys := false, apart := false, narrowed := true }
def FnExactMovedRecordsUptoSaid : Prop := fnExactMovedRecordsUptoRow.holds Try.pinned (OpenSpec.upto fnExactMovedRecordsSpec)

/-- 'laws.FnExactIsSwapPlan', WHERE WHAT IT READS IS OF BULK AT MOST 1048576: true; the input reads as it did. -/
def fnExactIsSwapPlanUptoRow : OpenClaim := { program := "ytkkoidoinbiikaa", sum := "bcff645d7d6b924f39acb71b48435f473a42decf74545ec283556284a04049ba", func := "loop.example/g00908/laws.FnExactIsSwapPlan", spec := "fnExactIsSwapPlan", plainKeys := false, apart := false, narrowed := true }
def FnExactIsSwapPlanUptoSaid : Prop := fnExactIsSwapPlanUptoRow.holds Try.pinned (OpenSpec.upto fnExactIsSwapPlanSpec)

/-- 'laws.FnExactSwapRate', WHERE WHAT IT READS IS OF BULK AT MOST 1048576: true; the input reads as it did. -/
def fnExactSwapRateUptoRow : OpenClaim := { program := "ytkkoidoinbiikaa", sum := "bcff645d7d6b924f39acb71b48435f473a42decf74545ec283556284a04049ba", func := "loop.example/g00908/laws.FnExactSwapRate", spec := "fnExactSwapRate", plainKeys := false, apart := false, narrowed := true }
def FnExactSwapRateUptoSaid : Prop := fnExactSwapRateUptoRow.holds Try.pinned (OpenSpec.upto fnExactSwapRateSpec)

/-- 'laws.FnExactSwapCandidates', WHERE WHAT IT READS IS OF BULK AT MOST 1048576: true; the input reads as it did. -/
def fnExactSwapCandidatesUptoRow : OpenClaim := { program := "ytkkoidoinbiikaa", sum := "bcff645d7d6b924f39acb71b48435f473a42decf74545ec283556284a04049ba", func := "loop.example/g00908/laws.FnExactSwapCandidates", spec := "fnExactSwapCandidates", plainKeys := false, apart := false, narrowed := true }
def FnExactSwapCandidatesUptoSaid : Prop := fnExactSwapCandidatesUptoRow.holds Try.pinned (OpenSpec.upto fnExactSwapCandidatesSpec)

/-- 'laws.FnExactApplySwaps', WHERE WHAT IT READS IS OF BULK AT MOST 1048576: true; the input reads as it did. -/
def fnExactApplySwapsUptoRow : OpenClaim := { program := "ytkkoidoinbiikaa", sum := "bcff645d7d6b924f39acb71b48435f473a42decf74545ec283556284a04049ba", func := "loop.example/g00908/laws.FnExactApplySwaps", spec := "fnExactApplySwaps", plainKeys := false, apart := false, narrowed := true }
def FnExactApplySwapsUptoSaid : Prop := fnExactApplySwapsUptoRow.holds Try.pinned (OpenSpec.upto fnExactApplySwapsSpec)

end Rows
end Go.Proofs.Ytkkoidoinbiikaa
