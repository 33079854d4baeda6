/- The law FnExactNextFlow: whatever the input, the call returns true, and each argument reads afterwards as it read before. No condition. -/
import Derived.Test.YtjpomfdmgaambaaRows
import Derived.Test.YtjpomfdmgaambaaLawsN1
import Derived.Test.YtjpomfdmgaambaaOpen
import Derived.ProofKit
import Derived.Below
namespace Go.Proofs.Ytjpomfdmgaambaa.fnExactNextFlow
open Go.ChangeShapes Go.WideShapes Go.ChangeAt Go.RowKit Go.Joins
set_option linter.unusedVariables false

theorem own : ownKnob Try.prog.godebug = none := by kernel_rfl
theorem laidOut : laidOutB Try.prog = true := by kernel_rfl

set_option maxRecDepth 100000 in
theorem lifted (os : Os) (started : os.Started) (H : Type) (enc : TypeId × Value → H) :
    ReturnsInHanded {} Try.checked os 3 .any (Rows.fnExactNextFlowSpec.pre6 enc Try.prog Try.f3 Rows.fnExactNextFlowRow.domain false) (Rows.fnExactNextFlowSpec.post enc Try.prog Try.f3 false true false false) := by
  refine returnsInHanded_of_change (C := Try.checked) own started (by kernel_rfl) Try.func3
    (ChangeSpec.witness6 (enc := enc) (C := Try.checked) false ⟨#[], #[.agg #[.slice none 0 0, .slice none 0 0, .slice none 0 0, .slice none 0 0], .slice none 0 0], []⟩ 8 (by kernel_rfl) (by kernel_rfl) (by kernel_rfl) (by kernel_rfl)) ?_
  intro W base args ds gs before hval0 hW hcnd _
  have hval : ∀ (j : Nat) t v, Try.f3.params[j]? = some t → args[j]? = some v → Value.okWide Try.prog W .any base t v := hval0
  have hW' := hW
  obtain ⟨p, q, hA0, hV, rfl, hfz, hnd⟩ := hW
  have hA : DataW.TrodAll enc Try.prog W 0 (fun _ => true) true Try.f3.params.toList args.toList ds p := hA0
  rw [Try.params3] at hA hval
  obtain ⟨v0, vs0, d0, ds0, p0, q0, hargs, rfl, rfl, h0, r0⟩ := trodAll_cons hA
  obtain ⟨v1, vs1, d1, ds1, p1, q1, rfl, rfl, rfl, h1, r1⟩ := trodAll_cons r0
  obtain ⟨rfl, rfl, rfl⟩ := trodAll_nil r1
  obtain rfl : args = #[v0, v1] := by cases args; simp_all
  obtain ⟨rfl, rfl⟩ := trodVars_none hV
  have k0 := h0
  have lt0 : ∀ x ∈ p0, x.block < W.heap.size := by obtain ⟨m, hm⟩ := k0; exact DataW.trod_lt m _ _ _ hm
  obtain ⟨v0_0, v0_1, v0_2, v0_3, y0_0, y0_1, y0_2, y0_3, n0, rfl, _, _, hf0_0, hf0_1, hf0_2, hf0_3⟩ := open_agg4 Try.underlying25 (by kernel_rfl) (by kernel_rfl) (hval 0 25 v0 rfl rfl) h0
  obtain ⟨xs0_0, i0_0, f0_0⟩ := ints_read Try.underlying22 Try.underlying3 (by kernel_rfl) hf0_0
  obtain ⟨xs0_1, i0_1, f0_1⟩ := ints_read Try.underlying22 Try.underlying3 (by kernel_rfl) hf0_1
  obtain ⟨xs0_2, i0_2, f0_2⟩ := grid_read Try.underlying23 Try.underlying22 Try.underlying3 (by kernel_rfl) (by kernel_rfl) hf0_2
  obtain ⟨xs0_3, i0_3, f0_3⟩ := grid_read Try.underlying23 Try.underlying22 Try.underlying3 (by kernel_rfl) (by kernel_rfl) hf0_3
  have k1 := h1
  have lt1 : ∀ x ∈ p1, x.block < W.heap.size := by obtain ⟨m, hm⟩ := k1; exact DataW.trod_lt m _ _ _ hm
  obtain ⟨a1, len1, cap1, rfl⟩ := okWide_slice Try.underlying23 (hval 1 23 v1 rfl rfl)
  obtain ⟨fuel1, hf1⟩ := h1
  obtain ⟨xs1_0, i1_0, f1_0⟩ := grid_read Try.underlying23 Try.underlying22 Try.underlying3 (by kernel_rfl) (by kernel_rfl) (by simpa [Value.cells] using hf1)
  clear hA0 hval0
  refine (lawNextFlow_c _ ⟨xs0_0, xs0_1, xs0_2, xs0_3⟩ _ xs1_0 W ⟨_, _, _, _, rfl, i0_0, i0_1, i0_2, i0_3⟩ i1_0 ⟨f0_0, f0_1, f0_2, f0_3⟩ f1_0).mono fun e W1 ⟨he, hx⟩ => ?_
  subst he
  have bel := hx.below
  exact ⟨_, rfl, _, _, _, [], _, [], hW', trodAll_mk1 (shut_bool Try.underlying4 _), (trodAll_cons_mk (Below.trod laidOut (by kernel_rfl) (of_decide_eq_true (by kernel_rfl)) k0 bel lt0) (trodAll_cons_mk (Below.trod laidOut (by kernel_rfl) (of_decide_eq_true (by kernel_rfl)) k1 bel lt1) trodAll_mk0)), rfl, bel.frame _, fun h => by cases h⟩

theorem over : Rows.fnExactNextFlowRow.holds Try.pinned (OpenSpec.ofChange Rows.fnExactNextFlowSpec) :=
  OpenClaim.holds_of_wide 3 Try.f3 rfl rfl rfl rfl rfl rfl rfl ⟨rfl, rfl, rfl, rfl, rfl⟩ rfl rfl rfl rfl rfl (by kernel_rfl) Try.func3 (by kernel_rfl)
    (of_decide_eq_true (by kernel_rfl)) (by unfold Func.isWrapper; first | (rw [if_pos (by decide +kernel)]; kernel_rfl) | (rw [if_neg (by decide +kernel)]; exact ⟨rfl, rfl⟩))
    (fun os started H enc _ => lifted os started H enc)

theorem proved : Rows.FnExactNextFlowSaid := over
#print axioms proved
end Go.Proofs.Ytjpomfdmgaambaa.fnExactNextFlow
