/-
  No cell of these rows narrows 'for every input' (looked for: loops, veiled, ifaces, maps, wideKeys, modest, calm, conditions, laid).
  DERIVED. THE GIVEN ROWS OF THIS SEAT. 6 by the template 'for every input the law returns true; each argument reads behind the call as it read before'; 0 by the template 'total and deterministic' (their statements: YtabfnpndfknjaaaTotals.lean).
  GIVEN WITH THE SEED: the statements are not yours to turn. If you find one false, say at which input.
  Laid BY PROGRAM, IN A SANDBOX (cutbox-rows.mjs): the forced cells as the released guide's own fill.sh prints them over the translation 59384e5fbbd710b7… (all of the seat's roots in one cut). By AI agents, Wed Nov 11 2026. No macro, syntax, notation, axiom, sorry.
-/
import Derived.Test.YtabfnpndfknjaaaChecked
import GoSem.Claim
import GoSem.ClaimJoined
import GoSem.ClaimMapViews
import Derived.JoinedTies
import Derived.KernelRfl
namespace Go.Proofs.Ytabfnpndfknjaaa
/- THE CELL 'sum', in the pinned program and in every row, IS THE sha256 OF THE DUMP (.gsa) THAT YtabfnpndfknjaaaProg.lean LOADS. Nothing in Lean hashes anything: it is a label: what it is worth is what the hold of that sum in a sandbox is worth. -/
noncomputable def Try.pinned : Pinned := { name := "ytabfnpndfknjaaa", sum := "59384e5fbbd710b7ebff49b76fcd50a2d95ff15296e9d6924e7b56c084adbbc1", checked := Try.checked }
namespace Rows
def none {H : Type} : Left H := { results := [], args := [] }

/-- 'laws.FnFractions': WHATEVER THE INPUT: true; the input reads as it did. -/
def fnFractionsSpec : ChangeSpec := { name := "fnFractions", fn := fun _ => fun
  | [d1, d2] => { results := [.lit (.bool true)], args := [d1, d2] }
  | _ => none }
def fnFractionsRow : OpenClaim := { program := "ytabfnpndfknjaaa", sum := "59384e5fbbd710b7ebff49b76fcd50a2d95ff15296e9d6924e7b56c084adbbc1", func := "loop.example/g00908/laws.FnFractions", spec := "fnFractions", apart := false }
def FnFractionsSaid : Prop := fnFractionsRow.holds Try.pinned (OpenSpec.ofChange fnFractionsSpec)

/-- ITS FALSE NEIGHBOUR: 'it returns false'. Refute it at one input. -/
def fnFractionsWrong : ChangeSpec := { name := "fnFractions", fn := fun _ => fun
  | [d1, d2] => { results := [.lit (.bool false)], args := [d1, d2] }
  | _ => none }
def FnFractionsWrongFalsely : Prop := fnFractionsRow.holds Try.pinned (OpenSpec.ofChange fnFractionsWrong)

/-- 'laws.FnExactExpBounds': WHATEVER THE INPUT: true; the input reads as it did. -/
def fnExactExpBoundsSpec : ChangeSpec := { name := "fnExactExpBounds", fn := fun _ => fun
  | [d1, d2] => { results := [.lit (.bool true)], args := [d1, d2] }
  | _ => none }
def fnExactExpBoundsRow : OpenClaim := { program := "ytabfnpndfknjaaa", sum := "59384e5fbbd710b7ebff49b76fcd50a2d95ff15296e9d6924e7b56c084adbbc1", func := "loop.example/g00908/laws.FnExactExpBounds", spec := "fnExactExpBounds", apart := false }
def FnExactExpBoundsSaid : Prop := fnExactExpBoundsRow.holds Try.pinned (OpenSpec.ofChange fnExactExpBoundsSpec)

/-- ITS FALSE NEIGHBOUR: 'it returns false'. Refute it at one input. -/
def fnExactExpBoundsWrong : ChangeSpec := { name := "fnExactExpBounds", fn := fun _ => fun
  | [d1, d2] => { results := [.lit (.bool false)], args := [d1, d2] }
  | _ => none }
def FnExactExpBoundsWrongFalsely : Prop := fnExactExpBoundsRow.holds Try.pinned (OpenSpec.ofChange fnExactExpBoundsWrong)

/-- 'laws.FnExactPossibleCounts': WHATEVER THE INPUT: true; the input reads as it did. -/
def fnExactPossibleCountsSpec : ChangeSpec := { name := "fnExactPossibleCounts", fn := fun _ => fun
  | [d1, d2] => { results := [.lit (.bool true)], args := [d1, d2] }
  | _ => none }
def fnExactPossibleCountsRow : OpenClaim := { program := "ytabfnpndfknjaaa", sum := "59384e5fbbd710b7ebff49b76fcd50a2d95ff15296e9d6924e7b56c084adbbc1", func := "loop.example/g00908/laws.FnExactPossibleCounts", spec := "fnExactPossibleCounts", apart := false }
def FnExactPossibleCountsSaid : Prop := fnExactPossibleCountsRow.holds Try.pinned (OpenSpec.ofChange fnExactPossibleCountsSpec)

/-- ITS FALSE NEIGHBOUR: 'it returns false'. Refute it at one input. -/
def fnExactPossibleCountsWrong : ChangeSpec := { name := "fnExactPossibleCounts", fn := fun _ => fun
  | [d1, d2] => { results := [.lit (.bool false)], args := [d1, d2] }
  | _ => none }
def FnExactPossibleCountsWrongFalsely : Prop := fnExactPossibleCountsRow.holds Try.pinned (OpenSpec.ofChange fnExactPossibleCountsWrong)

/-- 'laws.FnExactPerturbCounts': WHATEVER THE INPUT: true; the input reads as it did. -/
def fnExactPerturbCountsSpec : ChangeSpec := { name := "fnExactPerturbCounts", fn := fun _ => fun
  | [d1, d2, d3] => { results := [.lit (.bool true)], args := [d1, d2, d3] }
  | _ => none }
def fnExactPerturbCountsRow : OpenClaim := { program := "ytabfnpndfknjaaa", sum := "59384e5fbbd710b7ebff49b76fcd50a2d95ff15296e9d6924e7b56c084adbbc1", func := "loop.example/g00908/laws.FnExactPerturbCounts", spec := "fnExactPerturbCounts", apart := false }
def FnExactPerturbCountsSaid : Prop := fnExactPerturbCountsRow.holds Try.pinned (OpenSpec.ofChange fnExactPerturbCountsSpec)

/-- ITS FALSE NEIGHBOUR: 'it returns false'. Refute it at one input. -/
def fnExactPerturbCountsWrong : ChangeSpec := { name := "fnExactPerturbCounts", fn := fun _ => fun
  | [d1, d2, d3] => { results := [.lit (.bool false)], args := [d1, d2, d3] }
  | _ => none }
def FnExactPerturbCountsWrongFalsely : Prop := fnExactPerturbCountsRow.holds Try.pinned (OpenSpec.ofChange fnExactPerturbCountsWrong)

/-- 'laws.FnExactNoiseMean': WHATEVER THE INPUT: true; the input reads as it did. -/
def fnExactNoiseMeanSpec : ChangeSpec := { name := "fnExactNoiseMean", fn := fun _ => fun
  | [d1, d2] => { results := [.lit (.bool true)], args := [d1, d2] }
  | _ => none }
def fnExactNoiseMeanRow : OpenClaim := { program := "ytabfnpndfknjaaa", sum := "59384e5fbbd710b7ebff49b76fcd50a2d95ff15296e9d6924e7b56c084adbbc1", func := "loop.example/g00908/laws.FnExactNoiseMean", spec := "fnExactNoiseMean", apart := false }
def FnExactNoiseMeanSaid : Prop := fnExactNoiseMeanRow.holds Try.pinned (OpenSpec.ofChange fnExactNoiseMeanSpec)

/-- ITS FALSE NEIGHBOUR: 'it returns false'. Refute it at one input. -/
def fnExactNoiseMeanWrong : ChangeSpec := { name := "fnExactNoiseMean", fn := fun _ => fun
  | [d1, d2] => { results := [.lit (.bool false)], args := [d1, d2] }
  | _ => none }
def FnExactNoiseMeanWrongFalsely : Prop := fnExactNoiseMeanRow.holds Try.pinned (OpenSpec.ofChange fnExactNoiseMeanWrong)

/-- 'laws.FnExactNoiseVariance': WHATEVER THE INPUT: true; the input reads as it did. -/
def fnExactNoiseVarianceSpec : ChangeSpec := { name := "fnExactNoiseVariance", fn := fun _ => fun
  | [d1, d2] => { results := [.lit (.bool true)], args := [d1, d2] }
  | _ => none }
def fnExactNoiseVarianceRow : OpenClaim := { program := "ytabfnpndfknjaaa", sum := "59384e5fbbd710b7ebff49b76fcd50a2d95ff15296e9d6924e7b56c084adbbc1", func := "loop.example/g00908/laws.FnExactNoiseVariance", spec := "fnExactNoiseVariance", apart := false }
def FnExactNoiseVarianceSaid : Prop := fnExactNoiseVarianceRow.holds Try.pinned (OpenSpec.ofChange fnExactNoiseVarianceSpec)

/-- ITS FALSE NEIGHBOUR: 'it returns false'. Refute it at one input. -/
def fnExactNoiseVarianceWrong : ChangeSpec := { name := "fnExactNoiseVariance", fn := fun _ => fun
  | [d1, d2] => { results := [.lit (.bool false)], args := [d1, d2] }
  | _ => none }
def FnExactNoiseVarianceWrongFalsely : Prop := fnExactNoiseVarianceRow.holds Try.pinned (OpenSpec.ofChange fnExactNoiseVarianceWrong)

/- THE SECOND FORM. 'bulk': how many values and letters a reading holds, each counted each time it is reached (what is shared counts as often as it is met; a slice's spare places count too). A statement '..UptoSaid' is the law's where the arguments, and the package variables that the reading takes, are together of bulk at most 1048576: NARROWER than '..Said'. Prove '..Said' where nothing that the law and all that it calls make is longer than what came in: it says more and counts as full. Else prove '..UptoSaid'. A law counts once. -/
mutual
def uptoBulk {H : Type} : DataW H → Nat
  | .lit (.string bytes) => bytes.length + 1
  | .lit _ => 1
  | .nil => 1
  | .ptr d => uptoBulk d + 1
  | .slice elems spare => uptoBulkAll elems + uptoBulkAll spare + 1
  | .agg parts => uptoBulkAll parts + 1
  | .iface _ d => uptoBulk d + 1
  | .map entries => uptoBulkEntries entries + 1
  | .held _ => 1
def uptoBulkAll {H : Type} : List (DataW H) → Nat
  | [] => 0
  | d :: r => uptoBulk d + uptoBulkAll r
def uptoBulkEntries {H : Type} : List (Lit × DataW H) → Nat
  | [] => 0
  | x :: r => uptoBulkEntry x + uptoBulkEntries r
def uptoBulkEntry {H : Type} : Lit × DataW H → Nat
  | (.string bytes, d) => bytes.length + uptoBulk d + 1
  | (_, d) => uptoBulk d + 1
 end
def uptoSmall : (H : Type) → List (DataW H) → Bool := fun _ ds => decide (uptoBulkAll ds ≤ 1048576)
def OpenSpec.upto (s : _root_.Go.ChangeSpec) : _root_.Go.OpenSpec := { _root_.Go.OpenSpec.ofChange s with cond := some uptoSmall }

/-- 'laws.FnFractions', WHERE WHAT IT READS IS OF BULK AT MOST 1048576: true; the input reads as it did. -/
def fnFractionsUptoRow : OpenClaim := { program := "ytabfnpndfknjaaa", sum := "59384e5fbbd710b7ebff49b76fcd50a2d95ff15296e9d6924e7b56c084adbbc1", func := "loop.example/g00908/laws.FnFractions", spec := "fnFractions", apart := false, narrowed := true }
def FnFractionsUptoSaid : Prop := fnFractionsUptoRow.holds Try.pinned (OpenSpec.upto fnFractionsSpec)

/-- 'laws.FnExactExpBounds', WHERE WHAT IT READS IS OF BULK AT MOST 1048576: true; the input reads as it did. -/
def fnExactExpBoundsUptoRow : OpenClaim := { program := "ytabfnpndfknjaaa", sum := "59384e5fbbd710b7ebff49b76fcd50a2d95ff15296e9d6924e7b56c084adbbc1", func := "loop.example/g00908/laws.FnExactExpBounds", spec := "fnExactExpBounds", apart := false, narrowed := true }
def FnExactExpBoundsUptoSaid : Prop := fnExactExpBoundsUptoRow.holds Try.pinned (OpenSpec.upto fnExactExpBoundsSpec)

/-- 'laws.FnExactPossibleCounts', WHERE WHAT IT READS IS OF BULK AT MOST 1048576: true; the input reads as it did. -/
def fnExactPossibleCountsUptoRow : OpenClaim := { program := "ytabfnpndfknjaaa", sum := "59384e5fbbd710b7ebff49b76fcd50a2d95ff15296e9d6924e7b56c084adbbc1", func := "loop.example/g00908/laws.FnExactPossibleCounts", spec := "fnExactPossibleCounts", apart := false, narrowed := true }
def FnExactPossibleCountsUptoSaid : Prop := fnExactPossibleCountsUptoRow.holds Try.pinned (OpenSpec.upto fnExactPossibleCountsSpec)

/-- 'laws.FnExactPerturbCounts', WHERE WHAT IT READS IS OF BULK AT MOST 1048576: true; the input reads as it did. -/
def fnExactPerturbCountsUptoRow : OpenClaim := { program := "ytabfnpndfknjaaa", sum := "59384e5fbbd710b7ebff49b76fcd50a2d95ff15296e9d6924e7b56c084adbbc1", func := "loop.example/g00908/laws.FnExactPerturbCounts", spec := "fnExactPerturbCounts", apart := false, narrowed := true }
def FnExactPerturbCountsUptoSaid : Prop := fnExactPerturbCountsUptoRow.holds Try.pinned (OpenSpec.upto fnExactPerturbCountsSpec)

/-- 'laws.FnExactNoiseMean', WHERE WHAT IT READS IS OF BULK AT MOST 1048576: true; the input reads as it did. -/
def fnExactNoiseMeanUptoRow : OpenClaim := { program := "ytabfnpndfknjaaa", sum := "59384e5fbbd710b7ebff49b76fcd50a2d95ff15296e9d6924e7b56c084adbbc1", func := "loop.example/g00908/laws.FnExactNoiseMean", spec := "fnExactNoiseMean", apart := false, narrowed := true }
def FnExactNoiseMeanUptoSaid : Prop := fnExactNoiseMeanUptoRow.holds Try.pinned (OpenSpec.upto fnExactNoiseMeanSpec)

/-- 'laws.FnExactNoiseVariance', WHERE WHAT IT READS IS OF BULK AT MOST 1048576: true; the input reads as it did. -/
def fnExactNoiseVarianceUptoRow : OpenClaim := { program := "ytabfnpndfknjaaa", sum := "59384e5fbbd710b7ebff49b76fcd50a2d95ff15296e9d6924e7b56c084adbbc1", func := "loop.example/g00908/laws.FnExactNoiseVariance", spec := "fnExactNoiseVariance", apart := false, narrowed := true }
def FnExactNoiseVarianceUptoSaid : Prop := fnExactNoiseVarianceUptoRow.holds Try.pinned (OpenSpec.upto fnExactNoiseVarianceSpec)

end Rows
end Go.Proofs.Ytabfnpndfknjaaa
