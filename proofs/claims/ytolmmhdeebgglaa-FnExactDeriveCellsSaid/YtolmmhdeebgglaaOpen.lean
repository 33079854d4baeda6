/- From the form's own readings of arguments to the readings that the contracts speak of. -/
import Derived.Test.YtolmmhdeebgglaaLib
import Derived.ProofKit
import Derived.Deep.Slices
import Derived.Deep.Matrix
import Derived.Lib.SmallJoins
namespace Go.Proofs.Ytolmmhdeebgglaa
open Go.ChangeShapes Go.WideShapes Go.ChangeAt Go.RowKit Go.Deep Go.Joins

theorem spot_none {w : World} {a : Addr} {i : Nat} {v : Value} (h : w.cell? (a.add i) = some v) : a.add i = ⟨a.block, a.off + i, none⟩ := by
  obtain ⟨b, o, s⟩ := a
  unfold Addr.add at *
  by_cases e : i = 0
  · subst e
    simp only [if_true, Nat.add_zero] at *
    cases s with
    | none => rfl
    | some s => exfalso; unfold World.cell? at h; simp at h; split at h <;> simp_all
  · simp [e]
theorem spot_none0 {w : World} {a : Addr} {v : Value} (h : w.cell? (a.add 0) = some v) : a = ⟨a.block, a.off, none⟩ := by
  have := spot_none h
  simpa [Addr.add] using this

theorem wf_i64 {n : Int} (h : (Lit.int .i64 n).wf = true) : -9223372036854775808 ≤ n ∧ n ≤ 9223372036854775807 := by
  simpa [Lit.wf, IntKind.min, IntKind.max, IntKind.signed, IntKind.bits] using h

section
variable {H : Type} {enc : TypeId × Value → H} {P : Program} {w : World} {base : Nat} {held : Bool}

theorem ints_read {t e : TypeId} {fuel : Nat} {c : Value} {x : DataW H × List MemPlace} (ht : P.underlying t = some (.slice e)) (he : P.underlying e = some (.int .i64)) (hc : P.cellsOf e = 1)
    (h : DataW.trod enc P w base (fun _ => true) held fuel t [c] = some x) : ∃ xs, Ints w c xs ∧ Wf xs := by
  rcases open_ints ht he hc h with ⟨hcs, _⟩ | ⟨a, len, cap, zs, hcs, _, hl, hm, hz, _, hcell, hwz⟩
  · simp at hcs; subst hcs
    exact ⟨[], Ints.nil w, fun x hx => by simp at hx⟩
  · simp at hcs; subst hcs
    simp only [if_true] at hz
    have hlen : (zs.take len).length = len := by simp; omega
    refine ⟨zs.take len, ⟨some a, cap, by rw [hlen], by omega, by simpa [maxLen] using hm, fun k hk => ?_⟩, fun n hn => wf_i64 (hwz n (List.mem_of_mem_take hn))⟩
    have hk' : k < len := by omega
    have hcl := hcell k (by omega)
    have h0 := hcell 0 (by omega)
    have ha := spot_none0 h0
    refine ⟨a.block, a.off, by rw [← ha], ?_⟩
    rw [← spot_none hcl, hcl]
    simp [ix, List.getD, hk']

theorem grid_read {t e q : TypeId} {fuel : Nat} {c : Value} {x : DataW H × List MemPlace} (ht : P.underlying t = some (.slice e)) (he : P.underlying e = some (.slice q)) (hq : P.underlying q = some (.int .i64))
    (ce : P.cellsOf e = 1) (cq : P.cellsOf q = 1) (h : DataW.trod enc P w base (fun _ => true) held fuel t [c] = some x) : ∃ xss, Grid w c xss ∧ WfG xss := by
  rcases open_slice1 ht ce h with ⟨hcs, _⟩ | ⟨a, len, cap, m, n, V, D, Pl, hcs, hb, hl, hm, hmm, _, hx⟩
  · simp at hcs; subst hcs
    exact ⟨[], Grid.nil w, fun x hx => by simp at hx⟩
  · simp at hcs; subst hcs
    simp only [if_true] at hmm
    subst hmm
    have each : ∀ i, i < len → ∃ xs, Ints w (V i) xs ∧ Wf xs := fun i hi => ints_read he hq cq (hx i (by omega)).2
    obtain ⟨X, hX⟩ := choose_lt each
    have hlen : ((List.range len).map X).length = len := by simp
    have hrow : ∀ k, k < len → rowAt ((List.range len).map X) k = X k := fun k hk => by simp [rowAt, List.getD, hk]
    refine ⟨(List.range len).map X, ⟨some a, m, by rw [hlen], by omega, by simpa [maxLen] using hm, fun k hk => ?_⟩, fun r hr => ?_⟩
    · rw [hlen] at hk
      have hcl := (hx k (by omega)).1
      have h0 := (hx 0 (by omega)).1
      have ha := spot_none0 h0
      refine ⟨a.block, a.off, V k, by rw [← ha], by rw [← spot_none hcl, hcl], ?_⟩
      rw [hrow k hk]; exact (hX k hk).1
    · obtain ⟨k, hk, rfl⟩ := List.mem_map.1 hr
      exact (hX k (by simpa using hk)).2
theorem array1 {α : Type} {cs : Array α} (h : cs.size = 1) : ∃ c0, cs = #[c0] := by
  obtain ⟨l⟩ := cs
  match l, h with
  | [c0], _ => exact ⟨c0, rfl⟩
theorem open_agg1 {r : Reach} {b0 : Nat} {t : TypeId} {f0 : Field} {v : Value} {d : DataW H} {p : List MemPlace} (hs : P.underlying t = some (.struct #[f0])) (hone : oneCellFields P #[f0] = true) (hC : P.cellsOf t = 1)
    (hv : Value.okWide P w r b0 t v) (h : DataW.Trod enc P w base (fun _ => true) held t v d p) :
    ∃ (v0 : Value) (y0 : DataW H × List MemPlace) (n : Nat), v = .agg #[v0] ∧ d = .agg [y0.1] ∧ p = y0.2 ∧
      DataW.trod enc P w base (fun _ => true) held n f0.type [v0] = some y0 := by
  obtain ⟨cs, rfl, hsz⟩ := okWide_struct hs hv
  obtain ⟨c0, rfl⟩ := array1 (hsz.trans hC)
  obtain ⟨fuel, hf⟩ := h
  obtain ⟨y0, n, hx, _, h0⟩ := trod_struct1 hs hf
  obtain ⟨o0, k0⟩ := hone_of hone 0 f0 rfl
  simp only [Prod.mk.injEq] at hx
  exact ⟨c0, y0, n, rfl, hx.1, hx.2, by simpa [Value.cells, o0, k0] using h0⟩
end
end Go.Proofs.Ytolmmhdeebgglaa
