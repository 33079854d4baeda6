/- From the form's own readings of slices of tables to the readings that the contracts speak of. -/
import Derived.Test.YtolmmhdeebgglaaOpenV
import Derived.Test.YtolmmhdeebgglaaTaB
namespace Go.Proofs.Ytolmmhdeebgglaa
open Go.ChangeShapes Go.WideShapes Go.ChangeAt Go.RowKit Go.Deep Go.Joins

instance instInhTa : Inhabited Ta := ⟨ta0⟩
section
variable {H : Type} {enc : TypeId × Value → H} {P : Program} {w : World} {base : Nat} {held : Bool}

theorem tabs_read {t e q : TypeId} {f0 f1 f2 f3 : Field} {fuel : Nat} {c : Value} {x : DataW H × List MemPlace} (ht : P.underlying t = some (.slice e)) (he : P.underlying e = some (.struct #[f0, f1, f2, f3]))
    (ce : P.cellsOf e = 4) (o0 : f0.offset = 0) (o1 : f1.offset = 1) (o2 : f2.offset = 2) (o3 : f3.offset = 3) (c0 : P.cellsOf f0.type = 1) (c1 : P.cellsOf f1.type = 1) (c2 : P.cellsOf f2.type = 1) (c3 : P.cellsOf f3.type = 1)
    (t0 : P.underlying f0.type = some (.int .i64)) (t1 : P.underlying f1.type = some (.slice q)) (t2 : P.underlying f2.type = some (.slice q)) (t3 : P.underlying f3.type = some (.int .i64)) (tq : P.underlying q = some (.int .i64)) (cq : P.cellsOf q = 1)
    (h : DataW.trod enc P w base (fun _ => true) held fuel t [c] = some x) : ∃ l, Tabs w c l ∧ WfT l := by
  rcases open_slice ht h with ⟨hcs, _⟩ | ⟨a, len, cap, m, n, D, Pl, hcs, hb, hl, hm, hmm, _, hx⟩
  · simp at hcs; subst hcs
    exact ⟨[], Tabs.nil w, fun x hx => by simp at hx⟩
  · simp at hcs; subst hcs
    simp only [if_true] at hmm
    subst hmm
    have each : ∀ i, i < len → ∃ r : Ta × Value × Value, w.cell? (a.add (i * 4)) = some (.int .i64 r.1.level) ∧ w.cell? (a.add (i * 4 + 1)) = some r.2.1 ∧ w.cell? (a.add (i * 4 + 2)) = some r.2.2 ∧ w.cell? (a.add (i * 4 + 3)) = some (.int .i64 r.1.sum) ∧ Ints w r.2.1 r.1.vars ∧ Ints w r.2.2 r.1.cond ∧ TaWf r.1 := fun i hi => by
      obtain ⟨cs', h1, h2⟩ := hx i (by omega)
      rw [ce] at h1
      obtain ⟨_, hlen, hcell⟩ := World.cells?_some h1
      obtain ⟨y0, y1, y2, y3, n', _, _, g0, g1, g2, g3⟩ := trod_struct4 he h2
      match cs', hlen with
      | [v0, v1, v2, v3], _ =>
        rw [o0, c0] at g0
        rw [o1, c1] at g1
        rw [o2, c2] at g2
        rw [o3, c3] at g3
        simp only [List.drop_zero, List.drop_succ_cons, List.take_succ_cons, List.take_zero] at g0 g1 g2 g3
        obtain ⟨k0, e0, _, w0⟩ := DataW.trod_int t0 g0
        obtain ⟨xs1, i1, w1⟩ := ints_read t1 tq cq g1
        obtain ⟨xs2, i2, w2⟩ := ints_read t2 tq cq g2
        obtain ⟨k3, e3, _, w3⟩ := DataW.trod_int t3 g3
        have q0 := hcell 0 (by omega)
        have q1 := hcell 1 (by omega)
        have q2 := hcell 2 (by omega)
        have q3 := hcell 3 (by omega)
        rw [add_add] at q0 q1 q2 q3
        simp only [List.cons.injEq, and_true] at e0 e3
        subst e0 e3
        exact ⟨(⟨k0, xs1, xs2, k3⟩, v1, v2), by simpa using q0, by simpa using q1, by simpa using q2, by simpa using q3, i1, i2, wf_i64 w0, w1, w2, wf_i64 w3⟩
    obtain ⟨X, hX⟩ := choose_lt each
    have hlen : ((List.range len).map fun i => (X i).1).length = len := by simp
    have hrow : ∀ k, k < len → taAt ((List.range len).map fun i => (X i).1) k = (X k).1 := fun k hk => by simp [taAt, List.getD, hk]
    refine ⟨(List.range len).map fun i => (X i).1, ⟨some a, m, by rw [hlen], by omega, by simpa [maxLen] using hm, fun k hk => ?_⟩, fun r hr => ?_⟩
    · rw [hlen] at hk
      have h0 := (hX 0 (by omega)).1
      have ha := spot_none0 (by simpa using h0)
      obtain ⟨q0, q1, q2, q3, q4, q5, _⟩ := hX k hk
      rw [hrow k hk]
      exact ⟨a.block, a.off, (X k).2.1, (X k).2.2, by rw [← ha], by rw [← spot_none q0, q0], by have := spot_none q1; rw [← Nat.add_assoc] at this; rw [← this, q1], by have := spot_none q2; rw [← Nat.add_assoc] at this; rw [← this, q2], by have := spot_none q3; rw [← Nat.add_assoc] at this; rw [← this, q3], q4, q5⟩
    · obtain ⟨k, hk, rfl⟩ := List.mem_map.1 hr
      exact (hX k (by simpa using hk)).2.2.2.2.2.2
end
end Go.Proofs.Ytolmmhdeebgglaa
