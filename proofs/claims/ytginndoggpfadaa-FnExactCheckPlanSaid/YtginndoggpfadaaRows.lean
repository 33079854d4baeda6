/-
  No cell of these rows narrows 'for every input' (looked for: loops, veiled, ifaces, maps, wideKeys, modest, calm, conditions, laid).
  DERIVED. THE GIVEN ROWS OF THIS SEAT. 6 by the template 'for every input the law returns true; each argument reads behind the call as it read before'; 0 by the template 'total and deterministic' (their statements: YtginndoggpfadaaTotals.lean).
  GIVEN WITH THE SEED: the statements are not yours to turn. If you find one false, say at which input.
  Laid BY PROGRAM, IN A SANDBOX (cutbox-rows.mjs): the forced cells as the released guide's own fill.sh prints them over the translation 0d21f5bc16e9e2cd… (all of the seat's roots in one cut). By AI agents, Wed Nov 11 2026. No macro, syntax, notation, axiom, sorry.
-/
import Derived.Test.YtginndoggpfadaaChecked
import GoSem.Claim
import GoSem.ClaimJoined
import GoSem.ClaimMapViews
import Derived.JoinedTies
import Derived.KernelRfl
namespace Go.Proofs.Ytginndoggpfadaa
/- THE CELL 'sum', in the pinned program and in every row, IS THE sha256 OF THE DUMP (.gsa) THAT YtginndoggpfadaaProg.lean LOADS. Nothing in Lean hashes anything: it is a label: what it is worth is what the hold of that sum in a sandbox is worth. -/
noncomputable def Try.pinned : Pinned := { name := "ytginndoggpfadaa", sum := "0d21f5bc16e9e2cdd3ec6317f77c4c20e4baec273f0fc886eef87b569f1b7e78", checked := Try.checked }
namespace Rows
def none {H : Type} : Left H := { results := [], args := [] }

/-- 'laws.FnExactIsProtected': WHATEVER THE INPUT: true; the input reads as it did. -/
def fnExactIsProtectedSpec : ChangeSpec := { name := "fnExactIsProtected", fn := fun _ => fun
  | [d1, d2, d3, d4, d5, d6] => { results := [.lit (.bool true)], args := [d1, d2, d3, d4, d5, d6] }
  | _ => none }
def fnExactIsProtectedRow : OpenClaim := { program := "ytginndoggpfadaa", sum := "0d21f5bc16e9e2cdd3ec6317f77c4c20e4baec273f0fc886eef87b569f1b7e78", func := "loop.example/g00908/laws.FnExactIsProtected", spec := "fnExactIsProtected", unfollowed := true, recurses := true, apart := false }
def FnExactIsProtectedSaid : Prop := fnExactIsProtectedRow.holds Try.pinned (OpenSpec.ofChange fnExactIsProtectedSpec)

/-- ITS FALSE NEIGHBOUR: 'it returns false'. Refute it at one input. -/
def fnExactIsProtectedWrong : ChangeSpec := { name := "fnExactIsProtected", fn := fun _ => fun
  | [d1, d2, d3, d4, d5, d6] => { results := [.lit (.bool false)], args := [d1, d2, d3, d4, d5, d6] }
  | _ => none }
def FnExactIsProtectedWrongFalsely : Prop := fnExactIsProtectedRow.holds Try.pinned (OpenSpec.ofChange fnExactIsProtectedWrong)

/-- 'laws.FnExactSafeMargin': WHATEVER THE INPUT: true; the input reads as it did. -/
def fnExactSafeMarginSpec : ChangeSpec := { name := "fnExactSafeMargin", fn := fun _ => fun
  | [d1, d2, d3, d4] => { results := [.lit (.bool true)], args := [d1, d2, d3, d4] }
  | _ => none }
def fnExactSafeMarginRow : OpenClaim := { program := "ytginndoggpfadaa", sum := "0d21f5bc16e9e2cdd3ec6317f77c4c20e4baec273f0fc886eef87b569f1b7e78", func := "loop.example/g00908/laws.FnExactSafeMargin", spec := "fnExactSafeMargin", unfollowed := true, recurses := true, apart := false }
def FnExactSafeMarginSaid : Prop := fnExactSafeMarginRow.holds Try.pinned (OpenSpec.ofChange fnExactSafeMarginSpec)

/-- ITS FALSE NEIGHBOUR: 'it returns false'. Refute it at one input. -/
def fnExactSafeMarginWrong : ChangeSpec := { name := "fnExactSafeMargin", fn := fun _ => fun
  | [d1, d2, d3, d4] => { results := [.lit (.bool false)], args := [d1, d2, d3, d4] }
  | _ => none }
def FnExactSafeMarginWrongFalsely : Prop := fnExactSafeMarginRow.holds Try.pinned (OpenSpec.ofChange fnExactSafeMarginWrong)

/-- 'laws.FnExactExposedCells': WHATEVER THE INPUT: true; the input reads as it did. -/
def fnExactExposedCellsSpec : ChangeSpec := { name := "fnExactExposedCells", fn := fun _ => fun
  | [d1, d2] => { results := [.lit (.bool true)], args := [d1, d2] }
  | _ => none }
def fnExactExposedCellsRow : OpenClaim := { program := "ytginndoggpfadaa", sum := "0d21f5bc16e9e2cdd3ec6317f77c4c20e4baec273f0fc886eef87b569f1b7e78", func := "loop.example/g00908/laws.FnExactExposedCells", spec := "fnExactExposedCells", unfollowed := true, recurses := true, apart := false }
def FnExactExposedCellsSaid : Prop := fnExactExposedCellsRow.holds Try.pinned (OpenSpec.ofChange fnExactExposedCellsSpec)

/-- ITS FALSE NEIGHBOUR: 'it returns false'. Refute it at one input. -/
def fnExactExposedCellsWrong : ChangeSpec := { name := "fnExactExposedCells", fn := fun _ => fun
  | [d1, d2] => { results := [.lit (.bool false)], args := [d1, d2] }
  | _ => none }
def FnExactExposedCellsWrongFalsely : Prop := fnExactExposedCellsRow.holds Try.pinned (OpenSpec.ofChange fnExactExposedCellsWrong)

/-- 'laws.FnExactUnprotectedCells': WHATEVER THE INPUT: true; the input reads as it did. -/
def fnExactUnprotectedCellsSpec : ChangeSpec := { name := "fnExactUnprotectedCells", fn := fun _ => fun
  | [d1, d2, d3, d4, d5] => { results := [.lit (.bool true)], args := [d1, d2, d3, d4, d5] }
  | _ => none }
def fnExactUnprotectedCellsRow : OpenClaim := { program := "ytginndoggpfadaa", sum := "0d21f5bc16e9e2cdd3ec6317f77c4c20e4baec273f0fc886eef87b569f1b7e78", func := "loop.example/g00908/laws.FnExactUnprotectedCells", spec := "fnExactUnprotectedCells", unfollowed := true, recurses := true, apart := false }
def FnExactUnprotectedCellsSaid : Prop := fnExactUnprotectedCellsRow.holds Try.pinned (OpenSpec.ofChange fnExactUnprotectedCellsSpec)

/-- ITS FALSE NEIGHBOUR: 'it returns false'. Refute it at one input. -/
def fnExactUnprotectedCellsWrong : ChangeSpec := { name := "fnExactUnprotectedCells", fn := fun _ => fun
  | [d1, d2, d3, d4, d5] => { results := [.lit (.bool false)], args := [d1, d2, d3, d4, d5] }
  | _ => none }
def FnExactUnprotectedCellsWrongFalsely : Prop := fnExactUnprotectedCellsRow.holds Try.pinned (OpenSpec.ofChange fnExactUnprotectedCellsWrong)

/-- 'laws.FnExactImpliedBounds': WHATEVER THE INPUT: true; the input reads as it did. -/
def fnExactImpliedBoundsSpec : ChangeSpec := { name := "fnExactImpliedBounds", fn := fun _ => fun
  | [d1, d2] => { results := [.lit (.bool true)], args := [d1, d2] }
  | _ => none }
def fnExactImpliedBoundsRow : OpenClaim := { program := "ytginndoggpfadaa", sum := "0d21f5bc16e9e2cdd3ec6317f77c4c20e4baec273f0fc886eef87b569f1b7e78", func := "loop.example/g00908/laws.FnExactImpliedBounds", spec := "fnExactImpliedBounds", unfollowed := true, recurses := true, apart := false }
def FnExactImpliedBoundsSaid : Prop := fnExactImpliedBoundsRow.holds Try.pinned (OpenSpec.ofChange fnExactImpliedBoundsSpec)

/-- ITS FALSE NEIGHBOUR: 'it returns false'. Refute it at one input. -/
def fnExactImpliedBoundsWrong : ChangeSpec := { name := "fnExactImpliedBounds", fn := fun _ => fun
  | [d1, d2] => { results := [.lit (.bool false)], args := [d1, d2] }
  | _ => none }
def FnExactImpliedBoundsWrongFalsely : Prop := fnExactImpliedBoundsRow.holds Try.pinned (OpenSpec.ofChange fnExactImpliedBoundsWrong)

/-- 'laws.FnExactCheckPlan': WHATEVER THE INPUT: true; the input reads as it did. -/
def fnExactCheckPlanSpec : ChangeSpec := { name := "fnExactCheckPlan", fn := fun _ => fun
  | [d1, d2, d3, d4, d5] => { results := [.lit (.bool true)], args := [d1, d2, d3, d4, d5] }
  | _ => none }
def fnExactCheckPlanRow : OpenClaim := { program := "ytginndoggpfadaa", sum := "0d21f5bc16e9e2cdd3ec6317f77c4c20e4baec273f0fc886eef87b569f1b7e78", func := "loop.example/g00908/laws.FnExactCheckPlan", spec := "fnExactCheckPlan", unfollowed := true, recurses := true, apart := false }
def FnExactCheckPlanSaid : Prop := fnExactCheckPlanRow.holds Try.pinned (OpenSpec.ofChange fnExactCheckPlanSpec)

/-- ITS FALSE NEIGHBOUR: 'it returns false'. Refute it at one input. -/
def fnExactCheckPlanWrong : ChangeSpec := { name := "fnExactCheckPlan", fn := fun _ => fun
  | [d1, d2, d3, d4, d5] => { results := [.lit (.bool false)], args := [d1, d2, d3, d4, d5] }
  | _ => none }
def FnExactCheckPlanWrongFalsely : Prop := fnExactCheckPlanRow.holds Try.pinned (OpenSpec.ofChange fnExactCheckPlanWrong)

/- THE SECOND FORM. 'bulk': how many values and letters a reading holds, each counted each time it is reached (what is shared counts as often as it is met; a slice's spare places count too). A statement '..UptoSaid' is the law's where the arguments, and the package variables that the reading takes, are together of bulk at most 1048576: NARROWER than '..Said'. Prove '..Said' where nothing that the law and all that it calls make is longer than what came in: it says more and counts as full. Else prove '..UptoSaid'. A law counts once. -/
mutual
def uptoBulk {H : Type} : DataW H → Nat
  | .lit (.string bytes) => bytes.length + 1
  | .lit _ => 1
  | .nil => 1
  | .ptr d => uptoBulk d + 1
  | .slice elems spare => uptoBulkAll elems + uptoBulkAll spare + 1
  | .agg parts => uptoBulkAll parts + 1
  | .iface _ d => uptoBulk d + 1
  | .map entries => uptoBulkEntries entries + 1
  | .held _ => 1
def uptoBulkAll {H : Type} : List (DataW H) → Nat
  | [] => 0
  | d :: r => uptoBulk d + uptoBulkAll r
def uptoBulkEntries {H : Type} : List (Lit × DataW H) → Nat
  | [] => 0
  | x :: r => uptoBulkEntry x + uptoBulkEntries r
def uptoBulkEntry {H : Type} : Lit × DataW H → Nat
  | (.string bytes, d) => bytes.length + uptoBulk d + 1
  | (_, d) => uptoBulk d + 1
 end
def uptoSmall : (H : Type) → List (DataW H) → Bool := fun _ ds => decide (uptoBulkAll ds ≤ 1048576)
def OpenSpec.upto (s : _root_.Go.ChangeSpec) : _root_.Go.OpenSpec := { _root_.Go.OpenSpec.ofChange s with cond := some uptoSmall }

/-- 'laws.FnExactIsProtected', WHERE WHAT IT READS IS OF BULK AT MOST 1048576: true; the input reads as it did. -/
def fnExactIsProtectedUptoRow : OpenClaim := { program := "ytginndoggpfadaa", sum := "0d21f5bc16e9e2cdd3ec6317f77c4c20e4baec273f0fc886eef87b569f1b7e78", func := "loop.example/g00908/laws.FnExactIsProtected", spec := "fnExactIsProtected", unfollowed := true, recurses := true, apart := false, narrowed := true }
def FnExactIsProtectedUptoSaid : Prop := fnExactIsProtectedUptoRow.holds Try.pinned (OpenSpec.upto fnExactIsProtectedSpec)

/-- 'laws.FnExactSafeMargin', WHERE WHAT IT READS IS OF BULK AT MOST 1048576: true; the input reads as it did. -/
def fnExactSafeMarginUptoRow : OpenClaim := { program := "ytginndoggpfadaa", sum := "0d21f5bc16e9e2cdd3ec6317f77c4c20e4baec273f0fc886eef87b569f1b7e78", func := "loop.example/g00908/laws.FnExactSafeMargin", spec := "fnExactSafeMargin", unfollowed := true, recurses := true, apart := false, narrowed := true }
def FnExactSafeMarginUptoSaid : Prop := fnExactSafeMarginUptoRow.holds Try.pinned (OpenSpec.upto fnExactSafeMarginSpec)

/-- 'laws.FnExactExposedCells', WHERE WHAT IT READS IS OF BULK AT MOST 1048576: true; the input reads as it did. -/
def fnExactExposedCellsUptoRow : OpenClaim := { program := "ytginndoggpfadaa", sum := "0d21f5bc16e9e2cdd3ec6317f77c4c20e4baec273f0fc886eef87b569f1b7e78", func := "loop.example/g00908/laws.FnExactExposedCells", spec := "fnExactExposedCells", unfollowed := true, recurses := true, apart := false, narrowed := true }
def FnExactExposedCellsUptoSaid : Prop := fnExactExposedCellsUptoRow.holds Try.pinned (OpenSpec.upto fnExactExposedCellsSpec)

/-- 'laws.FnExactUnprotectedCells', WHERE WHAT IT READS IS OF BULK AT MOST 1048576: true; the input reads as it did. -/
def fnExactUnprotectedCellsUptoRow : OpenClaim := { program := "ytginndoggpfadaa", sum := "0d21f5bc16e9e2cdd3ec6317f77c4c20e4baec273f0fc886eef87b569f1b7e78", func := "loop.example/g00908/laws.FnExactUnprotectedCells", spec := "fnExactUnprotectedCells", unfollowed := true, recurses := true, apart := false, narrowed := true }
def FnExactUnprotectedCellsUptoSaid : Prop := fnExactUnprotectedCellsUptoRow.holds Try.pinned (OpenSpec.upto fnExactUnprotectedCellsSpec)

/-- 'laws.FnExactImpliedBounds', WHERE WHAT IT READS IS OF BULK AT MOST 1048576: true; the input reads as it did. -/
def fnExactImpliedBoundsUptoRow : OpenClaim := { program := "ytginndoggpfadaa", sum := "0d21f5bc16e9e2cdd3ec6317f77c4c20e4baec273f0fc886eef87b569f1b7e78", func := "loop.example/g00908/laws.FnExactImpliedBounds", spec := "fnExactImpliedBounds", unfollowed := true, recurses := true, apart := false, narrowed := true }
def FnExactImpliedBoundsUptoSaid : Prop := fnExactImpliedBoundsUptoRow.holds Try.pinned (OpenSpec.upto fnExactImpliedBoundsSpec)

/-- 'laws.FnExactCheckPlan', WHERE WHAT IT READS IS OF BULK AT MOST 1048576: true; the input reads as it did. -/
def fnExactCheckPlanUptoRow : OpenClaim := { program := "ytginndoggpfadaa", sum := "0d21f5bc16e9e2cdd3ec6317f77c4c20e4baec273f0fc886eef87b569f1b7e78", func := "loop.example/g00908/laws.FnExactCheckPlan", spec := "fnExactCheckPlan", unfollowed := true, recurses := true, apart := false, narrowed := true }
def FnExactCheckPlanUptoSaid : Prop := fnExactCheckPlanUptoRow.holds Try.pinned (OpenSpec.upto fnExactCheckPlanSpec)

end Rows
end Go.Proofs.Ytginndoggpfadaa
