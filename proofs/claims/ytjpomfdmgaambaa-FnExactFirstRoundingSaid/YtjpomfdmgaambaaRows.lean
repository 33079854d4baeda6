/-
  No cell of these rows narrows 'for every input' (looked for: loops, veiled, ifaces, maps, wideKeys, modest, calm, conditions, laid).
  DERIVED. THE GIVEN ROWS OF THIS SEAT. 4 by the template 'for every input the law returns true; each argument reads behind the call as it read before'; 0 by the template 'total and deterministic' (their statements: YtjpomfdmgaambaaTotals.lean).
  GIVEN WITH THE SEED: the statements are not yours to turn. If you find one false, say at which input.
  Laid BY PROGRAM, IN A SANDBOX (cutbox-rows.mjs): the forced cells as the released guide's own fill.sh prints them over the translation 57f76e5d45118c46… (all of the seat's roots in one cut). By AI agents, Wed Nov 11 2026. No macro, syntax, notation, axiom, sorry.
-/
import Derived.Test.YtjpomfdmgaambaaChecked
import GoSem.Claim
import GoSem.ClaimJoined
import GoSem.ClaimMapViews
import Derived.JoinedTies
import Derived.KernelRfl
namespace Go.Proofs.Ytjpomfdmgaambaa
/- THE CELL 'sum', in the pinned program and in every row, IS THE sha256 OF THE DUMP (.gsa) THAT YtjpomfdmgaambaaProg.lean LOADS. Nothing in Lean hashes anything: it is a label: what it is worth is what the hold of that sum in a sandbox is worth. -/
noncomputable def Try.pinned : Pinned := { name := "ytjpomfdmgaambaa", sum := "57f76e5d45118c46f5c40c05a0ba50bdefaeb060bb5e01a9c9da6062d8b2ef85", checked := Try.checked }
namespace Rows
def none {H : Type} : Left H := { results := [], args := [] }

/-- 'laws.FnExactNextFlow': WHATEVER THE INPUT: true; the input reads as it did. -/
def fnExactNextFlowSpec : ChangeSpec := { name := "fnExactNextFlow", fn := fun _ => fun
  | [d1, d2] => { results := [.lit (.bool true)], args := [d1, d2] }
  | _ => none }
def fnExactNextFlowRow : OpenClaim := { program := "ytjpomfdmgaambaa", sum := "57f76e5d45118c46f5c40c05a0ba50bdefaeb060bb5e01a9c9da6062d8b2ef85", func := "loop.example/g00908/laws.FnExactNextFlow", spec := "fnExactNextFlow", apart := false }
def FnExactNextFlowSaid : Prop := fnExactNextFlowRow.holds Try.pinned (OpenSpec.ofChange fnExactNextFlowSpec)

/-- ITS FALSE NEIGHBOUR: 'it returns false'. Refute it at one input. -/
def fnExactNextFlowWrong : ChangeSpec := { name := "fnExactNextFlow", fn := fun _ => fun
  | [d1, d2] => { results := [.lit (.bool false)], args := [d1, d2] }
  | _ => none }
def FnExactNextFlowWrongFalsely : Prop := fnExactNextFlowRow.holds Try.pinned (OpenSpec.ofChange fnExactNextFlowWrong)

/-- 'laws.FnExactRoundingNetwork': WHATEVER THE INPUT: true; the input reads as it did. -/
def fnExactRoundingNetworkSpec : ChangeSpec := { name := "fnExactRoundingNetwork", fn := fun _ => fun
  | [d1, d2] => { results := [.lit (.bool true)], args := [d1, d2] }
  | _ => none }
def fnExactRoundingNetworkRow : OpenClaim := { program := "ytjpomfdmgaambaa", sum := "57f76e5d45118c46f5c40c05a0ba50bdefaeb060bb5e01a9c9da6062d8b2ef85", func := "loop.example/g00908/laws.FnExactRoundingNetwork", spec := "fnExactRoundingNetwork", unfollowed := true, recurses := true, apart := false }
def FnExactRoundingNetworkSaid : Prop := fnExactRoundingNetworkRow.holds Try.pinned (OpenSpec.ofChange fnExactRoundingNetworkSpec)

/-- ITS FALSE NEIGHBOUR: 'it returns false'. Refute it at one input. -/
def fnExactRoundingNetworkWrong : ChangeSpec := { name := "fnExactRoundingNetwork", fn := fun _ => fun
  | [d1, d2] => { results := [.lit (.bool false)], args := [d1, d2] }
  | _ => none }
def FnExactRoundingNetworkWrongFalsely : Prop := fnExactRoundingNetworkRow.holds Try.pinned (OpenSpec.ofChange fnExactRoundingNetworkWrong)

/-- 'laws.FnExactRoundingRange': WHATEVER THE INPUT: true; the input reads as it did. -/
def fnExactRoundingRangeSpec : ChangeSpec := { name := "fnExactRoundingRange", fn := fun _ => fun
  | [d1, d2, d3, d4] => { results := [.lit (.bool true)], args := [d1, d2, d3, d4] }
  | _ => none }
def fnExactRoundingRangeRow : OpenClaim := { program := "ytjpomfdmgaambaa", sum := "57f76e5d45118c46f5c40c05a0ba50bdefaeb060bb5e01a9c9da6062d8b2ef85", func := "loop.example/g00908/laws.FnExactRoundingRange", spec := "fnExactRoundingRange", unfollowed := true, recurses := true, apart := false }
def FnExactRoundingRangeSaid : Prop := fnExactRoundingRangeRow.holds Try.pinned (OpenSpec.ofChange fnExactRoundingRangeSpec)

/-- ITS FALSE NEIGHBOUR: 'it returns false'. Refute it at one input. -/
def fnExactRoundingRangeWrong : ChangeSpec := { name := "fnExactRoundingRange", fn := fun _ => fun
  | [d1, d2, d3, d4] => { results := [.lit (.bool false)], args := [d1, d2, d3, d4] }
  | _ => none }
def FnExactRoundingRangeWrongFalsely : Prop := fnExactRoundingRangeRow.holds Try.pinned (OpenSpec.ofChange fnExactRoundingRangeWrong)

/-- 'laws.FnExactFirstRounding': WHATEVER THE INPUT: true; the input reads as it did. -/
def fnExactFirstRoundingSpec : ChangeSpec := { name := "fnExactFirstRounding", fn := fun _ => fun
  | [d1, d2] => { results := [.lit (.bool true)], args := [d1, d2] }
  | _ => none }
def fnExactFirstRoundingRow : OpenClaim := { program := "ytjpomfdmgaambaa", sum := "57f76e5d45118c46f5c40c05a0ba50bdefaeb060bb5e01a9c9da6062d8b2ef85", func := "loop.example/g00908/laws.FnExactFirstRounding", spec := "fnExactFirstRounding", unfollowed := true, recurses := true, apart := false }
def FnExactFirstRoundingSaid : Prop := fnExactFirstRoundingRow.holds Try.pinned (OpenSpec.ofChange fnExactFirstRoundingSpec)

/-- ITS FALSE NEIGHBOUR: 'it returns false'. Refute it at one input. -/
def fnExactFirstRoundingWrong : ChangeSpec := { name := "fnExactFirstRounding", fn := fun _ => fun
  | [d1, d2] => { results := [.lit (.bool false)], args := [d1, d2] }
  | _ => none }
def FnExactFirstRoundingWrongFalsely : Prop := fnExactFirstRoundingRow.holds Try.pinned (OpenSpec.ofChange fnExactFirstRoundingWrong)

/- THE SECOND FORM. 'bulk': how many values and letters a reading holds, each counted each time it is reached (what is shared counts as often as it is met; a slice's spare places count too). A statement '..UptoSaid' is the law's where the arguments, and the package variables that the reading takes, are together of bulk at most 1048576: NARROWER than '..Said'. Prove '..Said' where nothing that the law and all that it calls make is longer than what came in: it says more and counts as full. Else prove '..UptoSaid'. A law counts once. -/
mutual
def uptoBulk {H : Type} : DataW H → Nat
  | .lit (.string bytes) => bytes.length + 1
  | .lit _ => 1
  | .nil => 1
  | .ptr d => uptoBulk d + 1
  | .slice elems spare => uptoBulkAll elems + uptoBulkAll spare + 1
  | .agg parts => uptoBulkAll parts + 1
  | .iface _ d => uptoBulk d + 1
  | .map entries => uptoBulkEntries entries + 1
  | .held _ => 1
def uptoBulkAll {H : Type} : List (DataW H) → Nat
  | [] => 0
  | d :: r => uptoBulk d + uptoBulkAll r
def uptoBulkEntries {H : Type} : List (Lit × DataW H) → Nat
  | [] => 0
  | x :: r => uptoBulkEntry x + uptoBulkEntries r
def uptoBulkEntry {H : Type} : Lit × DataW H → Nat
  | (.string bytes, d) => bytes.length + uptoBulk d + 1
  | (_, d) => uptoBulk d + 1
 end
def uptoSmall : (H : Type) → List (DataW H) → Bool := fun _ ds => decide (uptoBulkAll ds ≤ 1048576)
def OpenSpec.upto (s : _root_.Go.ChangeSpec) : _root_.Go.OpenSpec := { _root_.Go.OpenSpec.ofChange s with cond := some uptoSmall }

/-- 'laws.FnExactNextFlow', WHERE WHAT IT READS IS OF BULK AT MOST 1048576: true; the input reads as it did. -/
def fnExactNextFlowUptoRow : OpenClaim := { program := "ytjpomfdmgaambaa", sum := "57f76e5d45118c46f5c40c05a0ba50bdefaeb060bb5e01a9c9da6062d8b2ef85", func := "loop.example/g00908/laws.FnExactNextFlow", spec := "fnExactNextFlow", apart := false, narrowed := true }
def FnExactNextFlowUptoSaid : Prop := fnExactNextFlowUptoRow.holds Try.pinned (OpenSpec.upto fnExactNextFlowSpec)

/-- 'laws.FnExactRoundingNetwork', WHERE WHAT IT READS IS OF BULK AT MOST 1048576: true; the input reads as it did. -/
def fnExactRoundingNetworkUptoRow : OpenClaim := { program := "ytjpomfdmgaambaa", sum := "57f76e5d45118c46f5c40c05a0ba50bdefaeb060bb5e01a9c9da6062d8b2ef85", func := "loop.example/g00908/laws.FnExactRoundingNetwork", spec := "fnExactRoundingNetwork", unfollowed := true, recurses := true, apart := false, narrowed := true }
def FnExactRoundingNetworkUptoSaid : Prop := fnExactRoundingNetworkUptoRow.holds Try.pinned (OpenSpec.upto fnExactRoundingNetworkSpec)

/-- 'laws.FnExactRoundingRange', WHERE WHAT IT READS IS OF BULK AT MOST 1048576: true; the input reads as it did. -/
def fnExactRoundingRangeUptoRow : OpenClaim := { program := "ytjpomfdmgaambaa", sum := "57f76e5d45118c46f5c40c05a0ba50bdefaeb060bb5e01a9c9da6062d8b2ef85", func := "loop.example/g00908/laws.FnExactRoundingRange", spec := "fnExactRoundingRange", unfollowed := true, recurses := true, apart := false, narrowed := true }
def FnExactRoundingRangeUptoSaid : Prop := fnExactRoundingRangeUptoRow.holds Try.pinned (OpenSpec.upto fnExactRoundingRangeSpec)

/-- 'laws.FnExactFirstRounding', WHERE WHAT IT READS IS OF BULK AT MOST 1048576: true; the input reads as it did. -/
def fnExactFirstRoundingUptoRow : OpenClaim := { program := "ytjpomfdmgaambaa", sum := "57f76e5d45118c46f5c40c05a0ba50bdefaeb060bb5e01a9c9da6062d8b2ef85", func := "loop.example/g00908/laws.FnExactFirstRounding", spec := "fnExactFirstRounding", unfollowed := true, recurses := true, apart := false, narrowed := true }
def FnExactFirstRoundingUptoSaid : Prop := fnExactFirstRoundingUptoRow.holds Try.pinned (OpenSpec.upto fnExactFirstRoundingSpec)

end Rows
end Go.Proofs.Ytjpomfdmgaambaa
