/- From the form's own readings of slices of variables and of records to the readings that the contracts speak of. -/
import Derived.Test.YtolmmhdeebgglaaOpen
import Derived.Test.YtolmmhdeebgglaaVr
import Derived.Deep.SlicePairs
import Derived.Deep.Strs
namespace Go.Proofs.Ytolmmhdeebgglaa
open Go.ChangeShapes Go.WideShapes Go.ChangeAt Go.RowKit Go.Deep Go.Joins

instance instInhVr : Inhabited Vr := ⟨vr0⟩
instance instInhPe : Inhabited Pe := ⟨pe0⟩
section
variable {H : Type} {enc : TypeId × Value → H} {P : Program} {w : World} {base : Nat} {held : Bool}

theorem vars_read {t e : TypeId} {f0 f1 : Field} {fuel : Nat} {c : Value} {x : DataW H × List MemPlace} (ht : P.underlying t = some (.slice e)) (he : P.underlying e = some (.struct #[f0, f1]))
    (ce : P.cellsOf e = 2) (o0 : f0.offset = 0) (o1 : f1.offset = 1) (c0 : P.cellsOf f0.type = 1) (c1 : P.cellsOf f1.type = 1) (t0 : P.underlying f0.type = some .string) (t1 : P.underlying f1.type = some (.int .i64))
    (h : DataW.trod enc P w base (fun _ => true) held fuel t [c] = some x) : ∃ s, Vrs w c s ∧ WfV s := by
  rcases open_slice_pairs ht he ce o0 o1 c0 c1 h with ⟨hcs, _⟩ | ⟨a, len, cap, m, n, V0, V1, D0, D1, P0, P1, hcs, hb, hl, hm, hmm, _, hx⟩
  · simp at hcs; subst hcs
    exact ⟨[], Vrs.nil w, fun x hx => by simp at hx⟩
  · simp at hcs; subst hcs
    simp only [if_true] at hmm
    subst hmm
    have each : ∀ i, i < len → ∃ r : Vr, V0 i = .string r.name ∧ V1 i = .int .i64 r.lev ∧ (-9223372036854775808 ≤ r.lev ∧ r.lev ≤ 9223372036854775807) ∧ r.name.size ≤ 9223372036854775807 := fun i hi => by
      obtain ⟨_, _, h2, h3⟩ := hx i (by omega)
      obtain ⟨s, e1, _, e2⟩ := DataW.trod_string t0 h2
      obtain ⟨k, e3, _, e4⟩ := DataW.trod_int t1 h3
      exact ⟨⟨s, k⟩, by simpa using e1, by simpa using e3, wf_i64 e4, by simpa [maxLen] using e2⟩
    obtain ⟨X, hX⟩ := choose_lt each
    have hlen : ((List.range len).map X).length = len := by simp
    have hrow : ∀ k, k < len → vrAt ((List.range len).map X) k = X k := fun k hk => by simp [vrAt, List.getD, hk]
    refine ⟨(List.range len).map X, ⟨some a, m, by rw [hlen], by omega, by simpa [maxLen] using hm, fun j hj => ?_⟩, fun r hr => ?_⟩
    · rw [hlen] at hj
      have hk : j / 2 < len := by omega
      have h0 := (hx 0 (by omega)).1
      have ha := spot_none0 (by simpa using h0)
      obtain ⟨hc0, hc1, _⟩ := hx (j / 2) (by omega)
      refine ⟨a.block, a.off, by rw [← ha], ?_⟩
      by_cases hp : j % 2 = 0
      · have hj2 : j = j / 2 * 2 := by omega
        rw [hj2, vrCell0, hrow _ (by omega), ← spot_none hc0, hc0, (hX (j / 2) hk).1]
      · have hj2 : j = j / 2 * 2 + 1 := by omega
        rw [hj2, vrCell1, hrow _ (by omega), ← spot_none hc1, hc1, (hX (j / 2) hk).2.1]
    · obtain ⟨k, hk, rfl⟩ := List.mem_map.1 hr
      exact (hX k (by simpa using hk)).2.2

theorem pes_read {t e q : TypeId} {f0 f1 f2 : Field} {fuel : Nat} {c : Value} {x : DataW H × List MemPlace} (ht : P.underlying t = some (.slice e)) (he : P.underlying e = some (.struct #[f0, f1, f2]))
    (ce : P.cellsOf e = 3) (o0 : f0.offset = 0) (o1 : f1.offset = 1) (o2 : f2.offset = 2) (c0 : P.cellsOf f0.type = 1) (c1 : P.cellsOf f1.type = 1) (c2 : P.cellsOf f2.type = 1)
    (t0 : P.underlying f0.type = some (.int .i64)) (t1 : P.underlying f1.type = some (.int .i64)) (t2 : P.underlying f2.type = some (.slice q)) (tq : P.underlying q = some (.int .i64)) (cq : P.cellsOf q = 1)
    (h : DataW.trod enc P w base (fun _ => true) held fuel t [c] = some x) : ∃ l, Pes w c l ∧ WfP l := by
  rcases open_slice ht h with ⟨hcs, _⟩ | ⟨a, len, cap, m, n, D, Pl, hcs, hb, hl, hm, hmm, _, hx⟩
  · simp at hcs; subst hcs
    exact ⟨[], Pes.nil w, fun x hx => by simp at hx⟩
  · simp at hcs; subst hcs
    simp only [if_true] at hmm
    subst hmm
    have each : ∀ i, i < len → ∃ r : Pe × Value, w.cell? (a.add (i * 3)) = some (.int .i64 r.1.area) ∧ w.cell? (a.add (i * 3 + 1)) = some (.int .i64 r.1.house) ∧ w.cell? (a.add (i * 3 + 2)) = some r.2 ∧ Ints w r.2 r.1.vals ∧ WfPe r.1 := fun i hi => by
      obtain ⟨cs', h1, h2⟩ := hx i (by omega)
      rw [ce] at h1
      obtain ⟨_, hlen, hcell⟩ := World.cells?_some h1
      obtain ⟨y0, y1, y2, n', _, _, g0, g1, g2⟩ := trod_struct3 he h2
      match cs', hlen with
      | [v0, v1, v2], _ =>
        rw [o0, c0] at g0
        rw [o1, c1] at g1
        rw [o2, c2] at g2
        simp only [List.drop_zero, List.drop_succ_cons, List.take_succ_cons, List.take_zero] at g0 g1 g2
        obtain ⟨k0, e0, _, w0⟩ := DataW.trod_int t0 g0
        obtain ⟨k1, e1, _, w1⟩ := DataW.trod_int t1 g1
        obtain ⟨xs, i2, w2⟩ := ints_read t2 tq cq g2
        have q0 := hcell 0 (by omega)
        have q1 := hcell 1 (by omega)
        have q2 := hcell 2 (by omega)
        rw [add_add] at q0 q1 q2
        simp only [List.cons.injEq, and_true] at e0 e1
        subst e0 e1
        exact ⟨(⟨k0, k1, xs⟩, v2), by simpa using q0, by simpa using q1, by simpa using q2, i2, wf_i64 w0, wf_i64 w1, w2⟩
    obtain ⟨X, hX⟩ := choose_lt each
    have hlen : ((List.range len).map fun i => (X i).1).length = len := by simp
    have hrow : ∀ k, k < len → peAt ((List.range len).map fun i => (X i).1) k = (X k).1 := fun k hk => by simp [peAt, List.getD, hk]
    refine ⟨(List.range len).map fun i => (X i).1, ⟨some a, m, by rw [hlen], by omega, by simpa [maxLen] using hm, fun k hk => ?_⟩, fun r hr => ?_⟩
    · rw [hlen] at hk
      have h0 := (hX 0 (by omega)).1
      have ha := spot_none0 (by simpa using h0)
      obtain ⟨q0, q1, q2, q3, _⟩ := hX k hk
      rw [hrow k hk]
      exact ⟨a.block, a.off, (X k).2, by rw [← ha], by rw [← spot_none q0, q0], by have := spot_none q1; rw [← Nat.add_assoc] at this; rw [← this, q1], by have := spot_none q2; rw [← Nat.add_assoc] at this; rw [← this, q2], q3⟩
    · obtain ⟨k, hk, rfl⟩ := List.mem_map.1 hr
      exact (hX k (by simpa using hk)).2.2.2.2
end
end Go.Proofs.Ytolmmhdeebgglaa
