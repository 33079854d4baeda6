/- Contracts of the laws' helpers over Rounding. -/
import Derived.Test.YtodnkahnbidgaaaSep
namespace Go.Proofs.Ytodnkahnbidgaaa
open Go.RowKit

structure Rd where
  cells : List (List Int)
  rows : List Int
  cols : List Int
  total : Int
/-- the value v reads as T -/
def RdR (w : World) (v : Value) (T : Rd) : Prop := ∃ v0 v1 v2 v3, v = .agg #[v0, v1, v2, v3] ∧ Grid w v0 T.cells ∧ Ints w v1 T.rows ∧ Ints w v2 T.cols ∧ v3 = .int .i64 T.total
def RdWf (T : Rd) : Prop := WfG T.cells ∧ Wf T.rows ∧ Wf T.cols ∧ (-9223372036854775808 ≤ T.total ∧ T.total ≤ 9223372036854775807)
def RdSmall (T : Rd) : Prop := Small T.cells ∧ T.rows.length ≤ 1048576 ∧ T.cols.length ≤ 1048576
theorem RdR.ext {w w' : World} {v : Value} {T : Rd} (h : RdR w v T) (u : Ext w w') : RdR w' v T := by
  obtain ⟨v0, v1, v2, v3, rfl, h0, h1, h2, h3⟩ := h
  exact ⟨_, _, _, _, rfl, h0.ext u, h1.ext u, h2.ext u, h3⟩
theorem RdR.form {w : World} {v : Value} {T : Rd} (h : RdR w v T) : ∃ a0 c0 a1 c1 a2 c2, v = .agg #[.slice a0 T.cells.length c0, .slice a1 T.rows.length c1, .slice a2 T.cols.length c2, .int .i64 T.total] ∧ T.cells.length ≤ 9223372036854775807 ∧ T.rows.length ≤ 9223372036854775807 ∧ T.cols.length ≤ 9223372036854775807 := by
  obtain ⟨v0, v1, v2, v3, rfl, h0, h1, h2, h3⟩ := h
  obtain ⟨a0, c0, rfl, p0, q0, _⟩ := h0
  obtain ⟨a1, c1, rfl, p1, q1, _⟩ := h1
  obtain ⟨a2, c2, rfl, p2, q2, _⟩ := h2
  subst h3
  exact ⟨a0, c0, a1, c1, a2, c2, rfl, by omega, by omega, by omega⟩
theorem RdR.f0 {w : World} {T : Rd} {v0 v1 v2 v3 : Value} (h : RdR w (.agg #[v0, v1, v2, v3]) T) : Grid w v0 T.cells := by
  obtain ⟨x0, x1, x2, x3, e, h0, h1, h2, h3⟩ := h
  simp only [Value.agg.injEq, Array.mk.injEq, List.cons.injEq, and_true] at e
  obtain ⟨rfl, rfl, rfl, rfl⟩ := e
  exact h0
theorem RdR.f1 {w : World} {T : Rd} {v0 v1 v2 v3 : Value} (h : RdR w (.agg #[v0, v1, v2, v3]) T) : Ints w v1 T.rows := by
  obtain ⟨x0, x1, x2, x3, e, h0, h1, h2, h3⟩ := h
  simp only [Value.agg.injEq, Array.mk.injEq, List.cons.injEq, and_true] at e
  obtain ⟨rfl, rfl, rfl, rfl⟩ := e
  exact h1
theorem RdR.f2 {w : World} {T : Rd} {v0 v1 v2 v3 : Value} (h : RdR w (.agg #[v0, v1, v2, v3]) T) : Ints w v2 T.cols := by
  obtain ⟨x0, x1, x2, x3, e, h0, h1, h2, h3⟩ := h
  simp only [Value.agg.injEq, Array.mk.injEq, List.cons.injEq, and_true] at e
  obtain ⟨rfl, rfl, rfl, rfl⟩ := e
  exact h2
/-- the value v reads as T, each field in blocks of its own, which are apart from the other fields' -/
def RdO (lo hi : Nat) (w : World) (v : Value) (T : Rd) : Prop := ∃ (v0 v1 v2 v3 : Value) (r0 : List Value), v = .agg #[v0, v1, v2, v3] ∧ OwnG lo hi w v0 r0 T.cells ∧ Own lo hi w v1 T.rows ∧ Own lo hi w v2 T.cols ∧ Apart (GB v0 r0 T.cells) (IB v1 T.rows) ∧ Apart (GB v0 r0 T.cells) (IB v2 T.cols) ∧ Apart (IB v1 T.rows) (IB v2 T.cols) ∧ v3 = .int .i64 T.total
/-- the same, the fields in ranges that follow one another -/
def RdL (lo hi : Nat) (w : World) (v : Value) (T : Rd) : Prop := ∃ (v0 v1 v2 v3 : Value) (r0 : List Value) (m0 m1 m2 m3 : Nat), v = .agg #[v0, v1, v2, v3] ∧ lo ≤ m0 ∧ m0 ≤ m1 ∧ m1 ≤ m2 ∧ m2 ≤ m3 ∧ m3 ≤ hi ∧ OwnG m0 m1 w v0 r0 T.cells ∧ Own m1 m2 w v1 T.rows ∧ Own m2 m3 w v2 T.cols ∧ v3 = .int .i64 T.total
/-- the value v reads as T, each field in blocks numbered from lo on and below hi -/
def RdN (lo hi : Nat) (w : World) (v : Value) (T : Rd) : Prop := ∃ (v0 v1 v2 v3 : Value) (r0 : List Value), v = .agg #[v0, v1, v2, v3] ∧ OwnG lo hi w v0 r0 T.cells ∧ Own lo hi w v1 T.rows ∧ Own lo hi w v2 T.cols ∧ v3 = .int .i64 T.total
theorem RdL.o {lo hi : Nat} {w : World} {v : Value} {T : Rd} (h : RdL lo hi w v T) : RdO lo hi w v T := by
  obtain ⟨v0, v1, v2, v3, r0, m0, m1, m2, m3, rfl, l0, l1, l2, l3, l9, o0, o1, o2, z3⟩ := h
  exact ⟨v0, v1, v2, v3, r0, rfl, o0.mono (by omega) (by omega), o1.mono (by omega) (by omega), o2.mono (by omega) (by omega), fun b h1 h2 => by have := o0.inside h1; have := o1.inside h2; omega, fun b h1 h2 => by have := o0.inside h1; have := o2.inside h2; omega, fun b h1 h2 => by have := o1.inside h1; have := o2.inside h2; omega, z3⟩
theorem RdO.read {lo hi : Nat} {w : World} {v : Value} {T : Rd} (h : RdO lo hi w v T) : RdR w v T := by
  obtain ⟨v0, v1, v2, v3, r0, rfl, o0, o1, o2, d0_1, d0_2, d1_2, z3⟩ := h
  exact ⟨v0, v1, v2, v3, rfl, o0.grid, o1.ints, o2.ints, z3⟩
theorem RdO.ext {lo hi : Nat} {w w' : World} {v : Value} {T : Rd} (h : RdO lo hi w v T) (u : Ext w w') : RdO lo hi w' v T := by
  obtain ⟨v0, v1, v2, v3, r0, rfl, o0, o1, o2, d0_1, d0_2, d1_2, z3⟩ := h
  exact ⟨v0, v1, v2, v3, r0, rfl, o0.ext u, o1.ext u, o2.ext u, d0_1, d0_2, d1_2, z3⟩
theorem RdO.away {S : Nat → Prop} {lo hi : Nat} {w w' : World} {v : Value} {T : Rd} (h : RdO lo hi w v T) (u : Upd S w w') (hs : ∀ b, S b → b < lo ∨ hi ≤ b) : RdO lo hi w' v T := by
  obtain ⟨v0, v1, v2, v3, r0, rfl, o0, o1, o2, d0_1, d0_2, d1_2, z3⟩ := h
  exact ⟨v0, v1, v2, v3, r0, rfl, o0.away u hs, o1.away u hs, o2.away u hs, d0_1, d0_2, d1_2, z3⟩
theorem RdO.mono {lo hi lo' hi' : Nat} {w : World} {v : Value} {T : Rd} (h : RdO lo hi w v T) (h1 : lo' ≤ lo) (h2 : hi ≤ hi') : RdO lo' hi' w v T := by
  obtain ⟨v0, v1, v2, v3, r0, rfl, o0, o1, o2, d0_1, d0_2, d1_2, z3⟩ := h
  exact ⟨v0, v1, v2, v3, r0, rfl, o0.mono h1 h2, o1.mono h1 h2, o2.mono h1 h2, d0_1, d0_2, d1_2, z3⟩
theorem RdN.read {lo hi : Nat} {w : World} {v : Value} {T : Rd} (h : RdN lo hi w v T) : RdR w v T := by
  obtain ⟨v0, v1, v2, v3, r0, rfl, o0, o1, o2, z3⟩ := h
  exact ⟨v0, v1, v2, v3, rfl, o0.grid, o1.ints, o2.ints, z3⟩
theorem RdN.ext {lo hi : Nat} {w w' : World} {v : Value} {T : Rd} (h : RdN lo hi w v T) (u : Ext w w') : RdN lo hi w' v T := by
  obtain ⟨v0, v1, v2, v3, r0, rfl, o0, o1, o2, z3⟩ := h
  exact ⟨v0, v1, v2, v3, r0, rfl, o0.ext u, o1.ext u, o2.ext u, z3⟩
theorem RdN.away {S : Nat → Prop} {lo hi : Nat} {w w' : World} {v : Value} {T : Rd} (h : RdN lo hi w v T) (u : Upd S w w') (hs : ∀ b, S b → b < lo ∨ hi ≤ b) : RdN lo hi w' v T := by
  obtain ⟨v0, v1, v2, v3, r0, rfl, o0, o1, o2, z3⟩ := h
  exact ⟨v0, v1, v2, v3, r0, rfl, o0.away u hs, o1.away u hs, o2.away u hs, z3⟩
theorem RdN.mono {lo hi lo' hi' : Nat} {w : World} {v : Value} {T : Rd} (h : RdN lo hi w v T) (h1 : lo' ≤ lo) (h2 : hi ≤ hi') : RdN lo' hi' w v T := by
  obtain ⟨v0, v1, v2, v3, r0, rfl, o0, o1, o2, z3⟩ := h
  exact ⟨v0, v1, v2, v3, r0, rfl, o0.mono h1 h2, o1.mono h1 h2, o2.mono h1 h2, z3⟩

def RdSize (T : Rd) : Int := (psum T.cells T.cells.length : Int) + (T.rows.length : Int) + (T.cols.length : Int)
theorem RdSmall.size {T : Rd} (h : RdSmall T) : 0 ≤ RdSize T ∧ RdSize T ≤ 3145728 := by
  obtain ⟨h0, h1, h2⟩ := h
  have := h0.psum T.cells.length (Nat.le_refl _)
  unfold RdSize; omega
/-- T', of the shape of T, is marked from k0 on -/
def RdMarked (k0 : Int) (T T' : Rd) : Prop := MarkedG (k0) T.cells T'.cells ∧ T'.rows = seqI (k0 + (psum T.cells T.cells.length : Int)) T.rows.length ∧ T'.cols = seqI (k0 + (psum T.cells T.cells.length : Int) + (T.rows.length : Int)) T.cols.length
end Go.Proofs.Ytodnkahnbidgaaa
