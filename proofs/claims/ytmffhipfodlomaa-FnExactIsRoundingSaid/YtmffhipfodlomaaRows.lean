/-
  No cell of these rows narrows 'for every input' (looked for: loops, veiled, ifaces, maps, wideKeys, modest, calm, conditions, laid).
  DERIVED. THE GIVEN ROWS OF THIS SEAT. 12 by the template 'for every input the law returns true; each argument reads behind the call as it read before'; 0 by the template 'total and deterministic' (their statements: YtmffhipfodlomaaTotals.lean).
  GIVEN WITH THE SEED: the statements are not yours to turn. If you find one false, say at which input.
  Laid BY PROGRAM, IN A SANDBOX (cutbox-rows.mjs): the forced cells as the released guide's own fill.sh prints them over the translation 6b2ccbe94d6060ef… (all of the seat's roots in one cut). By AI agents, Wed Nov 11 2026. No macro, syntax, notation, axiom, sorry.
-/
import Derived.Test.YtmffhipfodlomaaChecked
import GoSem.Claim
import GoSem.ClaimJoined
import GoSem.ClaimMapViews
import Derived.JoinedTies
import Derived.KernelRfl
namespace Go.Proofs.Ytmffhipfodlomaa
/- THE CELL 'sum', in the pinned program and in every row, IS THE sha256 OF THE DUMP (.gsa) THAT YtmffhipfodlomaaProg.lean LOADS. Nothing in Lean hashes anything: it is a label: what it is worth is what the hold of that sum in a sandbox is worth. -/
noncomputable def Try.pinned : Pinned := { name := "ytmffhipfodlomaa", sum := "6b2ccbe94d6060ef07d20b4d0f4b593e4c1c886d99b2ba64ff6696c38e5869d7", checked := Try.checked }
namespace Rows
def none {H : Type} : Left H := { results := [], args := [] }

/-- 'laws.FnExactIsTransport': WHATEVER THE INPUT: true; the input reads as it did. -/
def fnExactIsTransportSpec : ChangeSpec := { name := "fnExactIsTransport", fn := fun _ => fun
  | [d] => { results := [.lit (.bool true)], args := [d] }
  | _ => none }
def fnExactIsTransportRow : OpenClaim := { program := "ytmffhipfodlomaa", sum := "6b2ccbe94d6060ef07d20b4d0f4b593e4c1c886d99b2ba64ff6696c38e5869d7", func := "loop.example/g00908/laws.FnExactIsTransport", spec := "fnExactIsTransport", apart := false }
def FnExactIsTransportSaid : Prop := fnExactIsTransportRow.holds Try.pinned (OpenSpec.ofChange fnExactIsTransportSpec)

/-- ITS FALSE NEIGHBOUR: 'it returns false'. Refute it at one input. -/
def fnExactIsTransportWrong : ChangeSpec := { name := "fnExactIsTransport", fn := fun _ => fun
  | [d] => { results := [.lit (.bool false)], args := [d] }
  | _ => none }
def FnExactIsTransportWrongFalsely : Prop := fnExactIsTransportRow.holds Try.pinned (OpenSpec.ofChange fnExactIsTransportWrong)

/-- 'laws.FnExactWorstDeviation': WHATEVER THE INPUT: true; the input reads as it did. -/
def fnExactWorstDeviationSpec : ChangeSpec := { name := "fnExactWorstDeviation", fn := fun _ => fun
  | [d1, d2] => { results := [.lit (.bool true)], args := [d1, d2] }
  | _ => none }
def fnExactWorstDeviationRow : OpenClaim := { program := "ytmffhipfodlomaa", sum := "6b2ccbe94d6060ef07d20b4d0f4b593e4c1c886d99b2ba64ff6696c38e5869d7", func := "loop.example/g00908/laws.FnExactWorstDeviation", spec := "fnExactWorstDeviation", apart := false }
def FnExactWorstDeviationSaid : Prop := fnExactWorstDeviationRow.holds Try.pinned (OpenSpec.ofChange fnExactWorstDeviationSpec)

/-- ITS FALSE NEIGHBOUR: 'it returns false'. Refute it at one input. -/
def fnExactWorstDeviationWrong : ChangeSpec := { name := "fnExactWorstDeviation", fn := fun _ => fun
  | [d1, d2] => { results := [.lit (.bool false)], args := [d1, d2] }
  | _ => none }
def FnExactWorstDeviationWrongFalsely : Prop := fnExactWorstDeviationRow.holds Try.pinned (OpenSpec.ofChange fnExactWorstDeviationWrong)

/-- 'laws.FnExactJoinPatterns': WHATEVER THE INPUT: true; the input reads as it did. -/
def fnExactJoinPatternsSpec : ChangeSpec := { name := "fnExactJoinPatterns", fn := fun _ => fun
  | [d1, d2] => { results := [.lit (.bool true)], args := [d1, d2] }
  | _ => none }
def fnExactJoinPatternsRow : OpenClaim := { program := "ytmffhipfodlomaa", sum := "6b2ccbe94d6060ef07d20b4d0f4b593e4c1c886d99b2ba64ff6696c38e5869d7", func := "loop.example/g00908/laws.FnExactJoinPatterns", spec := "fnExactJoinPatterns", apart := false }
def FnExactJoinPatternsSaid : Prop := fnExactJoinPatternsRow.holds Try.pinned (OpenSpec.ofChange fnExactJoinPatternsSpec)

/-- ITS FALSE NEIGHBOUR: 'it returns false'. Refute it at one input. -/
def fnExactJoinPatternsWrong : ChangeSpec := { name := "fnExactJoinPatterns", fn := fun _ => fun
  | [d1, d2] => { results := [.lit (.bool false)], args := [d1, d2] }
  | _ => none }
def FnExactJoinPatternsWrongFalsely : Prop := fnExactJoinPatternsRow.holds Try.pinned (OpenSpec.ofChange fnExactJoinPatternsWrong)

/-- 'laws.FnExactThresholdCells': WHATEVER THE INPUT: true; the input reads as it did. -/
def fnExactThresholdCellsSpec : ChangeSpec := { name := "fnExactThresholdCells", fn := fun _ => fun
  | [d1, d2] => { results := [.lit (.bool true)], args := [d1, d2] }
  | _ => none }
def fnExactThresholdCellsRow : OpenClaim := { program := "ytmffhipfodlomaa", sum := "6b2ccbe94d6060ef07d20b4d0f4b593e4c1c886d99b2ba64ff6696c38e5869d7", func := "loop.example/g00908/laws.FnExactThresholdCells", spec := "fnExactThresholdCells", apart := false }
def FnExactThresholdCellsSaid : Prop := fnExactThresholdCellsRow.holds Try.pinned (OpenSpec.ofChange fnExactThresholdCellsSpec)

/-- ITS FALSE NEIGHBOUR: 'it returns false'. Refute it at one input. -/
def fnExactThresholdCellsWrong : ChangeSpec := { name := "fnExactThresholdCells", fn := fun _ => fun
  | [d1, d2] => { results := [.lit (.bool false)], args := [d1, d2] }
  | _ => none }
def FnExactThresholdCellsWrongFalsely : Prop := fnExactThresholdCellsRow.holds Try.pinned (OpenSpec.ofChange fnExactThresholdCellsWrong)

/-- 'laws.FnExactPublishedTable': WHATEVER THE INPUT: true; the input reads as it did. -/
def fnExactPublishedTableSpec : ChangeSpec := { name := "fnExactPublishedTable", fn := fun _ => fun
  | [d1, d2] => { results := [.lit (.bool true)], args := [d1, d2] }
  | _ => none }
def fnExactPublishedTableRow : OpenClaim := { program := "ytmffhipfodlomaa", sum := "6b2ccbe94d6060ef07d20b4d0f4b593e4c1c886d99b2ba64ff6696c38e5869d7", func := "loop.example/g00908/laws.FnExactPublishedTable", spec := "fnExactPublishedTable", apart := false }
def FnExactPublishedTableSaid : Prop := fnExactPublishedTableRow.holds Try.pinned (OpenSpec.ofChange fnExactPublishedTableSpec)

/-- ITS FALSE NEIGHBOUR: 'it returns false'. Refute it at one input. -/
def fnExactPublishedTableWrong : ChangeSpec := { name := "fnExactPublishedTable", fn := fun _ => fun
  | [d1, d2] => { results := [.lit (.bool false)], args := [d1, d2] }
  | _ => none }
def FnExactPublishedTableWrongFalsely : Prop := fnExactPublishedTableRow.holds Try.pinned (OpenSpec.ofChange fnExactPublishedTableWrong)

/-- 'laws.FnExactOriginalBounds': WHATEVER THE INPUT: true; the input reads as it did. -/
def fnExactOriginalBoundsSpec : ChangeSpec := { name := "fnExactOriginalBounds", fn := fun _ => fun
  | [d1, d2] => { results := [.lit (.bool true)], args := [d1, d2] }
  | _ => none }
def fnExactOriginalBoundsRow : OpenClaim := { program := "ytmffhipfodlomaa", sum := "6b2ccbe94d6060ef07d20b4d0f4b593e4c1c886d99b2ba64ff6696c38e5869d7", func := "loop.example/g00908/laws.FnExactOriginalBounds", spec := "fnExactOriginalBounds", apart := false }
def FnExactOriginalBoundsSaid : Prop := fnExactOriginalBoundsRow.holds Try.pinned (OpenSpec.ofChange fnExactOriginalBoundsSpec)

/-- ITS FALSE NEIGHBOUR: 'it returns false'. Refute it at one input. -/
def fnExactOriginalBoundsWrong : ChangeSpec := { name := "fnExactOriginalBounds", fn := fun _ => fun
  | [d1, d2] => { results := [.lit (.bool false)], args := [d1, d2] }
  | _ => none }
def FnExactOriginalBoundsWrongFalsely : Prop := fnExactOriginalBoundsRow.holds Try.pinned (OpenSpec.ofChange fnExactOriginalBoundsWrong)

/-- 'laws.FnExactNeedsPartners': WHATEVER THE INPUT: true; the input reads as it did. -/
def fnExactNeedsPartnersSpec : ChangeSpec := { name := "fnExactNeedsPartners", fn := fun _ => fun
  | [d1, d2, d3] => { results := [.lit (.bool true)], args := [d1, d2, d3] }
  | _ => none }
def fnExactNeedsPartnersRow : OpenClaim := { program := "ytmffhipfodlomaa", sum := "6b2ccbe94d6060ef07d20b4d0f4b593e4c1c886d99b2ba64ff6696c38e5869d7", func := "loop.example/g00908/laws.FnExactNeedsPartners", spec := "fnExactNeedsPartners", apart := false }
def FnExactNeedsPartnersSaid : Prop := fnExactNeedsPartnersRow.holds Try.pinned (OpenSpec.ofChange fnExactNeedsPartnersSpec)

/-- ITS FALSE NEIGHBOUR: 'it returns false'. Refute it at one input. -/
def fnExactNeedsPartnersWrong : ChangeSpec := { name := "fnExactNeedsPartners", fn := fun _ => fun
  | [d1, d2, d3] => { results := [.lit (.bool false)], args := [d1, d2, d3] }
  | _ => none }
def FnExactNeedsPartnersWrongFalsely : Prop := fnExactNeedsPartnersRow.holds Try.pinned (OpenSpec.ofChange fnExactNeedsPartnersWrong)

/-- 'laws.FnExactIsFlow': WHATEVER THE INPUT: true; the input reads as it did. -/
def fnExactIsFlowSpec : ChangeSpec := { name := "fnExactIsFlow", fn := fun _ => fun
  | [d1, d2] => { results := [.lit (.bool true)], args := [d1, d2] }
  | _ => none }
def fnExactIsFlowRow : OpenClaim := { program := "ytmffhipfodlomaa", sum := "6b2ccbe94d6060ef07d20b4d0f4b593e4c1c886d99b2ba64ff6696c38e5869d7", func := "loop.example/g00908/laws.FnExactIsFlow", spec := "fnExactIsFlow", apart := false }
def FnExactIsFlowSaid : Prop := fnExactIsFlowRow.holds Try.pinned (OpenSpec.ofChange fnExactIsFlowSpec)

/-- ITS FALSE NEIGHBOUR: 'it returns false'. Refute it at one input. -/
def fnExactIsFlowWrong : ChangeSpec := { name := "fnExactIsFlow", fn := fun _ => fun
  | [d1, d2] => { results := [.lit (.bool false)], args := [d1, d2] }
  | _ => none }
def FnExactIsFlowWrongFalsely : Prop := fnExactIsFlowRow.holds Try.pinned (OpenSpec.ofChange fnExactIsFlowWrong)

/-- 'laws.FnExactMarginsOf': WHATEVER THE INPUT: true; the input reads as it did. -/
def fnExactMarginsOfSpec : ChangeSpec := { name := "fnExactMarginsOf", fn := fun _ => fun
  | [d] => { results := [.lit (.bool true)], args := [d] }
  | _ => none }
def fnExactMarginsOfRow : OpenClaim := { program := "ytmffhipfodlomaa", sum := "6b2ccbe94d6060ef07d20b4d0f4b593e4c1c886d99b2ba64ff6696c38e5869d7", func := "loop.example/g00908/laws.FnExactMarginsOf", spec := "fnExactMarginsOf", apart := false }
def FnExactMarginsOfSaid : Prop := fnExactMarginsOfRow.holds Try.pinned (OpenSpec.ofChange fnExactMarginsOfSpec)

/-- ITS FALSE NEIGHBOUR: 'it returns false'. Refute it at one input. -/
def fnExactMarginsOfWrong : ChangeSpec := { name := "fnExactMarginsOf", fn := fun _ => fun
  | [d] => { results := [.lit (.bool false)], args := [d] }
  | _ => none }
def FnExactMarginsOfWrongFalsely : Prop := fnExactMarginsOfRow.holds Try.pinned (OpenSpec.ofChange fnExactMarginsOfWrong)

/-- 'laws.FnExactAttackNetwork': WHATEVER THE INPUT: true; the input reads as it did. -/
def fnExactAttackNetworkSpec : ChangeSpec := { name := "fnExactAttackNetwork", fn := fun _ => fun
  | [d1, d2] => { results := [.lit (.bool true)], args := [d1, d2] }
  | _ => none }
def fnExactAttackNetworkRow : OpenClaim := { program := "ytmffhipfodlomaa", sum := "6b2ccbe94d6060ef07d20b4d0f4b593e4c1c886d99b2ba64ff6696c38e5869d7", func := "loop.example/g00908/laws.FnExactAttackNetwork", spec := "fnExactAttackNetwork", apart := false }
def FnExactAttackNetworkSaid : Prop := fnExactAttackNetworkRow.holds Try.pinned (OpenSpec.ofChange fnExactAttackNetworkSpec)

/-- ITS FALSE NEIGHBOUR: 'it returns false'. Refute it at one input. -/
def fnExactAttackNetworkWrong : ChangeSpec := { name := "fnExactAttackNetwork", fn := fun _ => fun
  | [d1, d2] => { results := [.lit (.bool false)], args := [d1, d2] }
  | _ => none }
def FnExactAttackNetworkWrongFalsely : Prop := fnExactAttackNetworkRow.holds Try.pinned (OpenSpec.ofChange fnExactAttackNetworkWrong)

/-- 'laws.FnExactRoundingNetwork': WHATEVER THE INPUT: true; the input reads as it did. -/
def fnExactRoundingNetworkSpec : ChangeSpec := { name := "fnExactRoundingNetwork", fn := fun _ => fun
  | [d1, d2] => { results := [.lit (.bool true)], args := [d1, d2] }
  | _ => none }
def fnExactRoundingNetworkRow : OpenClaim := { program := "ytmffhipfodlomaa", sum := "6b2ccbe94d6060ef07d20b4d0f4b593e4c1c886d99b2ba64ff6696c38e5869d7", func := "loop.example/g00908/laws.FnExactRoundingNetwork", spec := "fnExactRoundingNetwork", unfollowed := true, recurses := true, apart := false }
def FnExactRoundingNetworkSaid : Prop := fnExactRoundingNetworkRow.holds Try.pinned (OpenSpec.ofChange fnExactRoundingNetworkSpec)

/-- ITS FALSE NEIGHBOUR: 'it returns false'. Refute it at one input. -/
def fnExactRoundingNetworkWrong : ChangeSpec := { name := "fnExactRoundingNetwork", fn := fun _ => fun
  | [d1, d2] => { results := [.lit (.bool false)], args := [d1, d2] }
  | _ => none }
def FnExactRoundingNetworkWrongFalsely : Prop := fnExactRoundingNetworkRow.holds Try.pinned (OpenSpec.ofChange fnExactRoundingNetworkWrong)

/-- 'laws.FnExactIsRounding': WHATEVER THE INPUT: true; the input reads as it did. -/
def fnExactIsRoundingSpec : ChangeSpec := { name := "fnExactIsRounding", fn := fun _ => fun
  | [d1, d2, d3] => { results := [.lit (.bool true)], args := [d1, d2, d3] }
  | _ => none }
def fnExactIsRoundingRow : OpenClaim := { program := "ytmffhipfodlomaa", sum := "6b2ccbe94d6060ef07d20b4d0f4b593e4c1c886d99b2ba64ff6696c38e5869d7", func := "loop.example/g00908/laws.FnExactIsRounding", spec := "fnExactIsRounding", apart := false }
def FnExactIsRoundingSaid : Prop := fnExactIsRoundingRow.holds Try.pinned (OpenSpec.ofChange fnExactIsRoundingSpec)

/-- ITS FALSE NEIGHBOUR: 'it returns false'. Refute it at one input. -/
def fnExactIsRoundingWrong : ChangeSpec := { name := "fnExactIsRounding", fn := fun _ => fun
  | [d1, d2, d3] => { results := [.lit (.bool false)], args := [d1, d2, d3] }
  | _ => none }
def FnExactIsRoundingWrongFalsely : Prop := fnExactIsRoundingRow.holds Try.pinned (OpenSpec.ofChange fnExactIsRoundingWrong)

/- THE SECOND FORM. 'bulk': how many values and letters a reading holds, each counted each time it is reached (what is shared counts as often as it is met; a slice's spare places count too). A statement '..UptoSaid' is the law's where the arguments, and the package variables that the reading takes, are together of bulk at most 1048576: NARROWER than '..Said'. Prove '..Said' where nothing that the law and all that it calls make is longer than what came in: it says more and counts as full. Else prove '..UptoSaid'. A law counts once. -/
mutual
def uptoBulk {H : Type} : DataW H → Nat
  | .lit (.string bytes) => bytes.length + 1
  | .lit _ => 1
  | .nil => 1
  | .ptr d => uptoBulk d + 1
  | .slice elems spare => uptoBulkAll elems + uptoBulkAll spare + 1
  | .agg parts => uptoBulkAll parts + 1
  | .iface _ d => uptoBulk d + 1
  | .map entries => uptoBulkEntries entries + 1
  | .held _ => 1
def uptoBulkAll {H : Type} : List (DataW H) → Nat
  | [] => 0
  | d :: r => uptoBulk d + uptoBulkAll r
def uptoBulkEntries {H : Type} : List (Lit × DataW H) → Nat
  | [] => 0
  | x :: r => uptoBulkEntry x + uptoBulkEntries r
def uptoBulkEntry {H : Type} : Lit × DataW H → Nat
  | (.string bytes, d) => bytes.length + uptoBulk d + 1
  | (_, d) => uptoBulk d + 1
 end
def uptoSmall : (H : Type) → List (DataW H) → Bool := fun _ ds => decide (uptoBulkAll ds ≤ 1048576)
def OpenSpec.upto (s : _root_.Go.ChangeSpec) : _root_.Go.OpenSpec := { _root_.Go.OpenSpec.ofChange s with cond := some uptoSmall }

/-- 'laws.FnExactIsTransport', WHERE WHAT IT READS IS OF BULK AT MOST 1048576: true; the input reads as it did. -/
def fnExactIsTransportUptoRow : OpenClaim := { program := "ytmffhipfodlomaa", sum := "6b2ccbe94d6060ef07d20b4d0f4b593e4c1c886d99b2ba64ff6696c38e5869d7", func := "loop.example/g00908/laws.FnExactIsTransport", spec := "fnExactIsTransport", apart := false, narrowed := true }
def FnExactIsTransportUptoSaid : Prop := fnExactIsTransportUptoRow.holds Try.pinned (OpenSpec.upto fnExactIsTransportSpec)

/-- 'laws.FnExactWorstDeviation', WHERE WHAT IT READS IS OF BULK AT MOST 1048576: true; the input reads as it did. -/
def fnExactWorstDeviationUptoRow : OpenClaim := { program := "ytmffhipfodlomaa", sum := "6b2ccbe94d6060ef07d20b4d0f4b593e4c1c886d99b2ba64ff6696c38e5869d7", func := "loop.example/g00908/laws.FnExactWorstDeviation", spec := "fnExactWorstDeviation", apart := false, narrowed := true }
def FnExactWorstDeviationUptoSaid : Prop := fnExactWorstDeviationUptoRow.holds Try.pinned (OpenSpec.upto fnExactWorstDeviationSpec)

/-- 'laws.FnExactJoinPatterns', WHERE WHAT IT READS IS OF BULK AT MOST 1048576: true; the input reads as it did. -/
def fnExactJoinPatternsUptoRow : OpenClaim := { program := "ytmffhipfodlomaa", sum := "6b2ccbe94d6060ef07d20b4d0f4b593e4c1c886d99b2ba64ff6696c38e5869d7", func := "loop.example/g00908/laws.FnExactJoinPatterns", spec := "fnExactJoinPatterns", apart := false, narrowed := true }
def FnExactJoinPatternsUptoSaid : Prop := fnExactJoinPatternsUptoRow.holds Try.pinned (OpenSpec.upto fnExactJoinPatternsSpec)

/-- 'laws.FnExactThresholdCells', WHERE WHAT IT READS IS OF BULK AT MOST 1048576: true; the input reads as it did. -/
def fnExactThresholdCellsUptoRow : OpenClaim := { program := "ytmffhipfodlomaa", sum := "6b2ccbe94d6060ef07d20b4d0f4b593e4c1c886d99b2ba64ff6696c38e5869d7", func := "loop.example/g00908/laws.FnExactThresholdCells", spec := "fnExactThresholdCells", apart := false, narrowed := true }
def FnExactThresholdCellsUptoSaid : Prop := fnExactThresholdCellsUptoRow.holds Try.pinned (OpenSpec.upto fnExactThresholdCellsSpec)

/-- 'laws.FnExactPublishedTable', WHERE WHAT IT READS IS OF BULK AT MOST 1048576: true; the input reads as it did. -/
def fnExactPublishedTableUptoRow : OpenClaim := { program := "ytmffhipfodlomaa", sum := "6b2ccbe94d6060ef07d20b4d0f4b593e4c1c886d99b2ba64ff6696c38e5869d7", func := "loop.example/g00908/laws.FnExactPublishedTable", spec := "fnExactPublishedTable", apart := false, narrowed := true }
def FnExactPublishedTableUptoSaid : Prop := fnExactPublishedTableUptoRow.holds Try.pinned (OpenSpec.upto fnExactPublishedTableSpec)

/-- 'laws.FnExactOriginalBounds', WHERE WHAT IT READS IS OF BULK AT MOST 1048576: true; the input reads as it did. -/
def fnExactOriginalBoundsUptoRow : OpenClaim := { program := "ytmffhipfodlomaa", sum := "6b2ccbe94d6060ef07d20b4d0f4b593e4c1c886d99b2ba64ff6696c38e5869d7", func := "loop.example/g00908/laws.FnExactOriginalBounds", spec := "fnExactOriginalBounds", apart := false, narrowed := true }
def FnExactOriginalBoundsUptoSaid : Prop := fnExactOriginalBoundsUptoRow.holds Try.pinned (OpenSpec.upto fnExactOriginalBoundsSpec)

/-- 'laws.FnExactNeedsPartners', WHERE WHAT IT READS IS OF BULK AT MOST 1048576: true; the input reads as it did. -/
def fnExactNeedsPartnersUptoRow : OpenClaim := { program := "ytmffhipfodlomaa", sum := "6b2ccbe94d6060ef07d20b4d0f4b593e4c1c886d99b2ba64ff6696c38e5869d7", func := "loop.example/g00908/laws.FnExactNeedsPartners", spec := "fnExactNeedsPartners", apart := false, narrowed := true }
def FnExactNeedsPartnersUptoSaid : Prop := fnExactNeedsPartnersUptoRow.holds Try.pinned (OpenSpec.upto fnExactNeedsPartnersSpec)

/-- 'laws.FnExactIsFlow', WHERE WHAT IT READS IS OF BULK AT MOST 1048576: true; the input reads as it did. -/
def fnExactIsFlowUptoRow : OpenClaim := { program := "ytmffhipfodlomaa", sum := "6b2ccbe94d6060ef07d20b4d0f4b593e4c1c886d99b2ba64ff6696c38e5869d7", func := "loop.example/g00908/laws.FnExactIsFlow", spec := "fnExactIsFlow", apart := false, narrowed := true }
def FnExactIsFlowUptoSaid : Prop := fnExactIsFlowUptoRow.holds Try.pinned (OpenSpec.upto fnExactIsFlowSpec)

/-- 'laws.FnExactMarginsOf', WHERE WHAT IT READS IS OF BULK AT MOST 1048576: true; the input reads as it did. -/
def fnExactMarginsOfUptoRow : OpenClaim := { program := "ytmffhipfodlomaa", sum := "6b2ccbe94d6060ef07d20b4d0f4b593e4c1c886d99b2ba64ff6696c38e5869d7", func := "loop.example/g00908/laws.FnExactMarginsOf", spec := "fnExactMarginsOf", apart := false, narrowed := true }
def FnExactMarginsOfUptoSaid : Prop := fnExactMarginsOfUptoRow.holds Try.pinned (OpenSpec.upto fnExactMarginsOfSpec)

/-- 'laws.FnExactAttackNetwork', WHERE WHAT IT READS IS OF BULK AT MOST 1048576: true; the input reads as it did. -/
def fnExactAttackNetworkUptoRow : OpenClaim := { program := "ytmffhipfodlomaa", sum := "6b2ccbe94d6060ef07d20b4d0f4b593e4c1c886d99b2ba64ff6696c38e5869d7", func := "loop.example/g00908/laws.FnExactAttackNetwork", spec := "fnExactAttackNetwork", apart := false, narrowed := true }
def FnExactAttackNetworkUptoSaid : Prop := fnExactAttackNetworkUptoRow.holds Try.pinned (OpenSpec.upto fnExactAttackNetworkSpec)

/-- 'laws.FnExactRoundingNetwork', WHERE WHAT IT READS IS OF BULK AT MOST 1048576: true; the input reads as it did. -/
def fnExactRoundingNetworkUptoRow : OpenClaim := { program := "ytmffhipfodlomaa", sum := "6b2ccbe94d6060ef07d20b4d0f4b593e4c1c886d99b2ba64ff6696c38e5869d7", func := "loop.example/g00908/laws.FnExactRoundingNetwork", spec := "fnExactRoundingNetwork", unfollowed := true, recurses := true, apart := false, narrowed := true }
def FnExactRoundingNetworkUptoSaid : Prop := fnExactRoundingNetworkUptoRow.holds Try.pinned (OpenSpec.upto fnExactRoundingNetworkSpec)

/-- 'laws.FnExactIsRounding', WHERE WHAT IT READS IS OF BULK AT MOST 1048576: true; the input reads as it did. -/
def fnExactIsRoundingUptoRow : OpenClaim := { program := "ytmffhipfodlomaa", sum := "6b2ccbe94d6060ef07d20b4d0f4b593e4c1c886d99b2ba64ff6696c38e5869d7", func := "loop.example/g00908/laws.FnExactIsRounding", spec := "fnExactIsRounding", apart := false, narrowed := true }
def FnExactIsRoundingUptoSaid : Prop := fnExactIsRoundingUptoRow.holds Try.pinned (OpenSpec.upto fnExactIsRoundingSpec)

end Rows
end Go.Proofs.Ytmffhipfodlomaa
