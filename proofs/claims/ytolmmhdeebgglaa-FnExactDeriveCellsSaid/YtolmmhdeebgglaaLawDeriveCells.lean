/- The law FnExactDeriveCells: whatever the input, the call returns true, and each argument reads afterwards as it read before. No condition. -/
import Derived.Test.YtolmmhdeebgglaaRows
import Derived.Test.YtolmmhdeebgglaaLawsQDeriveCells
import Derived.Test.YtolmmhdeebgglaaOpen
import Derived.Test.YtolmmhdeebgglaaOpenV
import Derived.ProofKit
import Derived.Below
namespace Go.Proofs.Ytolmmhdeebgglaa.fnExactDeriveCells
open Go.ChangeShapes Go.WideShapes Go.ChangeAt Go.RowKit Go.Joins
set_option linter.unusedVariables false

theorem own : ownKnob Try.prog.godebug = none := by kernel_rfl
theorem laidOut : laidOutB Try.prog = true := by kernel_rfl

set_option maxRecDepth 100000 in
theorem lifted (os : Os) (started : os.Started) (H : Type) (enc : TypeId × Value → H) :
    ReturnsInHanded {} Try.checked os 5 .any (Rows.fnExactDeriveCellsSpec.pre6 enc Try.prog Try.f5 Rows.fnExactDeriveCellsRow.domain false) (Rows.fnExactDeriveCellsSpec.post enc Try.prog Try.f5 false true false false) := by
  refine returnsInHanded_of_change (C := Try.checked) own started (by kernel_rfl) Try.func5
    (ChangeSpec.witness6 (enc := enc) (C := Try.checked) false ⟨#[], #[.agg #[.slice none 0 0], .slice none 0 0, .agg #[.int .i64 0, .slice none 0 0, .slice none 0 0, .int .i64 0], .agg #[.int .i64 0, .slice none 0 0, .slice none 0 0, .int .i64 0], .slice none 0 0], []⟩ 8 (by kernel_rfl) (by kernel_rfl) (by kernel_rfl) (by kernel_rfl)) ?_
  intro W base args ds gs before hval0 hW hcnd _
  have hval : ∀ (j : Nat) t v, Try.f5.params[j]? = some t → args[j]? = some v → Value.okWide Try.prog W .any base t v := hval0
  have hW' := hW
  obtain ⟨p, q, hA0, hV, rfl, hfz, hnd⟩ := hW
  have hA : DataW.TrodAll enc Try.prog W 0 (fun _ => true) true Try.f5.params.toList args.toList ds p := hA0
  rw [Try.params5] at hA hval
  obtain ⟨v0, vs0, d0, ds0, p0, q0, hargs, rfl, rfl, h0, r0⟩ := trodAll_cons hA
  obtain ⟨v1, vs1, d1, ds1, p1, q1, rfl, rfl, rfl, h1, r1⟩ := trodAll_cons r0
  obtain ⟨v2, vs2, d2, ds2, p2, q2, rfl, rfl, rfl, h2, r2⟩ := trodAll_cons r1
  obtain ⟨v3, vs3, d3, ds3, p3, q3, rfl, rfl, rfl, h3, r3⟩ := trodAll_cons r2
  obtain ⟨v4, vs4, d4, ds4, p4, q4, rfl, rfl, rfl, h4, r4⟩ := trodAll_cons r3
  obtain ⟨rfl, rfl, rfl⟩ := trodAll_nil r4
  obtain rfl : args = #[v0, v1, v2, v3, v4] := by cases args; simp_all
  obtain ⟨rfl, rfl⟩ := trodVars_none hV
  have k0 := h0
  have lt0 : ∀ x ∈ p0, x.block < W.heap.size := by obtain ⟨m, hm⟩ := k0; exact DataW.trod_lt m _ _ _ hm
  obtain ⟨v0_0, y0_0, n0, rfl, _, _, hf0_0⟩ := open_agg1 Try.underlying24 (by kernel_rfl) (by kernel_rfl) (hval 0 24 v0 rfl rfl) h0
  obtain ⟨xs0_0, i0_0, f0_0⟩ := ints_read Try.underlying22 Try.underlying3 (by kernel_rfl) hf0_0
  have k1 := h1
  have lt1 : ∀ x ∈ p1, x.block < W.heap.size := by obtain ⟨m, hm⟩ := k1; exact DataW.trod_lt m _ _ _ hm
  obtain ⟨a1, len1, cap1, rfl⟩ := okWide_slice Try.underlying25 (hval 1 25 v1 rfl rfl)
  obtain ⟨fuel1, hf1⟩ := h1
  obtain ⟨xs1, i1, f1⟩ := vars_read Try.underlying25 Try.underlying64 (by kernel_rfl) rfl rfl (by kernel_rfl) (by kernel_rfl) Try.underlying9 Try.underlying3 (by simpa [Value.cells] using hf1)
  have k2 := h2
  have lt2 : ∀ x ∈ p2, x.block < W.heap.size := by obtain ⟨m, hm⟩ := k2; exact DataW.trod_lt m _ _ _ hm
  obtain ⟨v2_0, v2_1, v2_2, v2_3, y2_0, y2_1, y2_2, y2_3, n2, rfl, _, _, hf2_0, hf2_1, hf2_2, hf2_3⟩ := open_agg4 Try.underlying53 (by kernel_rfl) (by kernel_rfl) (hval 2 53 v2 rfl rfl) h2
  obtain ⟨a2_0, e2_0, ee2_0, w2_0⟩ := DataW.trod_int Try.underlying3 hf2_0
  simp at e2_0; subst e2_0
  obtain ⟨xs2_1, i2_1, f2_1⟩ := ints_read Try.underlying22 Try.underlying3 (by kernel_rfl) hf2_1
  obtain ⟨xs2_2, i2_2, f2_2⟩ := ints_read Try.underlying22 Try.underlying3 (by kernel_rfl) hf2_2
  obtain ⟨a2_3, e2_3, ee2_3, w2_3⟩ := DataW.trod_int Try.underlying3 hf2_3
  simp at e2_3; subst e2_3
  have k3 := h3
  have lt3 : ∀ x ∈ p3, x.block < W.heap.size := by obtain ⟨m, hm⟩ := k3; exact DataW.trod_lt m _ _ _ hm
  obtain ⟨v3_0, v3_1, v3_2, v3_3, y3_0, y3_1, y3_2, y3_3, n3, rfl, _, _, hf3_0, hf3_1, hf3_2, hf3_3⟩ := open_agg4 Try.underlying53 (by kernel_rfl) (by kernel_rfl) (hval 3 53 v3 rfl rfl) h3
  obtain ⟨a3_0, e3_0, ee3_0, w3_0⟩ := DataW.trod_int Try.underlying3 hf3_0
  simp at e3_0; subst e3_0
  obtain ⟨xs3_1, i3_1, f3_1⟩ := ints_read Try.underlying22 Try.underlying3 (by kernel_rfl) hf3_1
  obtain ⟨xs3_2, i3_2, f3_2⟩ := ints_read Try.underlying22 Try.underlying3 (by kernel_rfl) hf3_2
  obtain ⟨a3_3, e3_3, ee3_3, w3_3⟩ := DataW.trod_int Try.underlying3 hf3_3
  simp at e3_3; subst e3_3
  have k4 := h4
  have lt4 : ∀ x ∈ p4, x.block < W.heap.size := by obtain ⟨m, hm⟩ := k4; exact DataW.trod_lt m _ _ _ hm
  obtain ⟨a4, len4, cap4, rfl⟩ := okWide_slice Try.underlying22 (hval 4 22 v4 rfl rfl)
  obtain ⟨fuel4, hf4⟩ := h4
  obtain ⟨xs4_0, i4_0, f4_0⟩ := ints_read Try.underlying22 Try.underlying3 (by kernel_rfl) (by simpa [Value.cells] using hf4)
  clear hA0 hval0
  refine (lawDeriveCells_c _ ⟨xs0_0⟩ _ xs1 _ ⟨a2_0, xs2_1, xs2_2, a2_3⟩ _ ⟨a3_0, xs3_1, xs3_2, a3_3⟩ _ xs4_0 W ⟨_, rfl, i0_0⟩ i1 ⟨_, _, rfl, i2_1, i2_2⟩ ⟨_, _, rfl, i3_1, i3_2⟩ i4_0 f0_0 f1 ⟨(wf_i64 w2_0), f2_1, f2_2, (wf_i64 w2_3)⟩ ⟨(wf_i64 w3_0), f3_1, f3_2, (wf_i64 w3_3)⟩ f4_0).mono fun e W1 ⟨he, hx⟩ => ?_
  subst he
  have bel := hx.below
  exact ⟨_, rfl, _, _, _, [], _, [], hW', trodAll_mk1 (shut_bool Try.underlying4 _), (trodAll_cons_mk (Below.trod laidOut (by kernel_rfl) (of_decide_eq_true (by kernel_rfl)) k0 bel lt0) (trodAll_cons_mk (Below.trod laidOut (by kernel_rfl) (of_decide_eq_true (by kernel_rfl)) k1 bel lt1) (trodAll_cons_mk (Below.trod laidOut (by kernel_rfl) (of_decide_eq_true (by kernel_rfl)) k2 bel lt2) (trodAll_cons_mk (Below.trod laidOut (by kernel_rfl) (of_decide_eq_true (by kernel_rfl)) k3 bel lt3) (trodAll_cons_mk (Below.trod laidOut (by kernel_rfl) (of_decide_eq_true (by kernel_rfl)) k4 bel lt4) trodAll_mk0))))), rfl, bel.frame _, fun h => by cases h⟩

theorem over : Rows.fnExactDeriveCellsRow.holds Try.pinned (OpenSpec.ofChange Rows.fnExactDeriveCellsSpec) :=
  OpenClaim.holds_of_wide 5 Try.f5 rfl rfl rfl rfl rfl rfl rfl ⟨rfl, rfl, rfl, rfl, rfl⟩ rfl rfl rfl rfl rfl (by kernel_rfl) Try.func5 (by kernel_rfl)
    (of_decide_eq_true (by kernel_rfl)) (by unfold Func.isWrapper; first | (rw [if_pos (by decide +kernel)]; kernel_rfl) | (rw [if_neg (by decide +kernel)]; exact ⟨rfl, rfl⟩))
    (fun os started H enc _ => lifted os started H enc)

theorem proved : Rows.FnExactDeriveCellsSaid := over
#print axioms proved
end Go.Proofs.Ytolmmhdeebgglaa.fnExactDeriveCells
