/- Contracts of the laws' helpers over Transport. -/
import Derived.Test.YtodnkahnbidgaaaSep
namespace Go.Proofs.Ytodnkahnbidgaaa
open Go.RowKit

structure Tr where
  rows : List Int
  cols : List Int
  lo : List (List Int)
  hi : List (List Int)
/-- the value v reads as T -/
def TrR (w : World) (v : Value) (T : Tr) : Prop := ∃ v0 v1 v2 v3, v = .agg #[v0, v1, v2, v3] ∧ Ints w v0 T.rows ∧ Ints w v1 T.cols ∧ Grid w v2 T.lo ∧ Grid w v3 T.hi
def TrWf (T : Tr) : Prop := Wf T.rows ∧ Wf T.cols ∧ WfG T.lo ∧ WfG T.hi
def TrSmall (T : Tr) : Prop := T.rows.length ≤ 1048576 ∧ T.cols.length ≤ 1048576 ∧ Small T.lo ∧ Small T.hi
theorem TrR.ext {w w' : World} {v : Value} {T : Tr} (h : TrR w v T) (u : Ext w w') : TrR w' v T := by
  obtain ⟨v0, v1, v2, v3, rfl, h0, h1, h2, h3⟩ := h
  exact ⟨_, _, _, _, rfl, h0.ext u, h1.ext u, h2.ext u, h3.ext u⟩
theorem TrR.form {w : World} {v : Value} {T : Tr} (h : TrR w v T) : ∃ a0 c0 a1 c1 a2 c2 a3 c3, v = .agg #[.slice a0 T.rows.length c0, .slice a1 T.cols.length c1, .slice a2 T.lo.length c2, .slice a3 T.hi.length c3] ∧ T.rows.length ≤ 9223372036854775807 ∧ T.cols.length ≤ 9223372036854775807 ∧ T.lo.length ≤ 9223372036854775807 ∧ T.hi.length ≤ 9223372036854775807 := by
  obtain ⟨v0, v1, v2, v3, rfl, h0, h1, h2, h3⟩ := h
  obtain ⟨a0, c0, rfl, p0, q0, _⟩ := h0
  obtain ⟨a1, c1, rfl, p1, q1, _⟩ := h1
  obtain ⟨a2, c2, rfl, p2, q2, _⟩ := h2
  obtain ⟨a3, c3, rfl, p3, q3, _⟩ := h3
  exact ⟨a0, c0, a1, c1, a2, c2, a3, c3, rfl, by omega, by omega, by omega, by omega⟩
theorem TrR.f0 {w : World} {T : Tr} {v0 v1 v2 v3 : Value} (h : TrR w (.agg #[v0, v1, v2, v3]) T) : Ints w v0 T.rows := by
  obtain ⟨x0, x1, x2, x3, e, h0, h1, h2, h3⟩ := h
  simp only [Value.agg.injEq, Array.mk.injEq, List.cons.injEq, and_true] at e
  obtain ⟨rfl, rfl, rfl, rfl⟩ := e
  exact h0
theorem TrR.f1 {w : World} {T : Tr} {v0 v1 v2 v3 : Value} (h : TrR w (.agg #[v0, v1, v2, v3]) T) : Ints w v1 T.cols := by
  obtain ⟨x0, x1, x2, x3, e, h0, h1, h2, h3⟩ := h
  simp only [Value.agg.injEq, Array.mk.injEq, List.cons.injEq, and_true] at e
  obtain ⟨rfl, rfl, rfl, rfl⟩ := e
  exact h1
theorem TrR.f2 {w : World} {T : Tr} {v0 v1 v2 v3 : Value} (h : TrR w (.agg #[v0, v1, v2, v3]) T) : Grid w v2 T.lo := by
  obtain ⟨x0, x1, x2, x3, e, h0, h1, h2, h3⟩ := h
  simp only [Value.agg.injEq, Array.mk.injEq, List.cons.injEq, and_true] at e
  obtain ⟨rfl, rfl, rfl, rfl⟩ := e
  exact h2
theorem TrR.f3 {w : World} {T : Tr} {v0 v1 v2 v3 : Value} (h : TrR w (.agg #[v0, v1, v2, v3]) T) : Grid w v3 T.hi := by
  obtain ⟨x0, x1, x2, x3, e, h0, h1, h2, h3⟩ := h
  simp only [Value.agg.injEq, Array.mk.injEq, List.cons.injEq, and_true] at e
  obtain ⟨rfl, rfl, rfl, rfl⟩ := e
  exact h3
/-- the value v reads as T, each field in blocks of its own, which are apart from the other fields' -/
def TrO (lo hi : Nat) (w : World) (v : Value) (T : Tr) : Prop := ∃ (v0 v1 v2 v3 : Value) (r2 r3 : List Value), v = .agg #[v0, v1, v2, v3] ∧ Own lo hi w v0 T.rows ∧ Own lo hi w v1 T.cols ∧ OwnG lo hi w v2 r2 T.lo ∧ OwnG lo hi w v3 r3 T.hi ∧ Apart (IB v0 T.rows) (IB v1 T.cols) ∧ Apart (IB v0 T.rows) (GB v2 r2 T.lo) ∧ Apart (IB v0 T.rows) (GB v3 r3 T.hi) ∧ Apart (IB v1 T.cols) (GB v2 r2 T.lo) ∧ Apart (IB v1 T.cols) (GB v3 r3 T.hi) ∧ Apart (GB v2 r2 T.lo) (GB v3 r3 T.hi)
/-- the same, the fields in ranges that follow one another -/
def TrL (lo hi : Nat) (w : World) (v : Value) (T : Tr) : Prop := ∃ (v0 v1 v2 v3 : Value) (r2 r3 : List Value) (m0 m1 m2 m3 m4 : Nat), v = .agg #[v0, v1, v2, v3] ∧ lo ≤ m0 ∧ m0 ≤ m1 ∧ m1 ≤ m2 ∧ m2 ≤ m3 ∧ m3 ≤ m4 ∧ m4 ≤ hi ∧ Own m0 m1 w v0 T.rows ∧ Own m1 m2 w v1 T.cols ∧ OwnG m2 m3 w v2 r2 T.lo ∧ OwnG m3 m4 w v3 r3 T.hi
/-- the value v reads as T, each field in blocks numbered from lo on and below hi -/
def TrN (lo hi : Nat) (w : World) (v : Value) (T : Tr) : Prop := ∃ (v0 v1 v2 v3 : Value) (r2 r3 : List Value), v = .agg #[v0, v1, v2, v3] ∧ Own lo hi w v0 T.rows ∧ Own lo hi w v1 T.cols ∧ OwnG lo hi w v2 r2 T.lo ∧ OwnG lo hi w v3 r3 T.hi
theorem TrL.o {lo hi : Nat} {w : World} {v : Value} {T : Tr} (h : TrL lo hi w v T) : TrO lo hi w v T := by
  obtain ⟨v0, v1, v2, v3, r2, r3, m0, m1, m2, m3, m4, rfl, l0, l1, l2, l3, l4, l9, o0, o1, o2, o3⟩ := h
  exact ⟨v0, v1, v2, v3, r2, r3, rfl, o0.mono (by omega) (by omega), o1.mono (by omega) (by omega), o2.mono (by omega) (by omega), o3.mono (by omega) (by omega), fun b h1 h2 => by have := o0.inside h1; have := o1.inside h2; omega, fun b h1 h2 => by have := o0.inside h1; have := o2.inside h2; omega, fun b h1 h2 => by have := o0.inside h1; have := o3.inside h2; omega, fun b h1 h2 => by have := o1.inside h1; have := o2.inside h2; omega, fun b h1 h2 => by have := o1.inside h1; have := o3.inside h2; omega, fun b h1 h2 => by have := o2.inside h1; have := o3.inside h2; omega⟩
theorem TrO.read {lo hi : Nat} {w : World} {v : Value} {T : Tr} (h : TrO lo hi w v T) : TrR w v T := by
  obtain ⟨v0, v1, v2, v3, r2, r3, rfl, o0, o1, o2, o3, d0_1, d0_2, d0_3, d1_2, d1_3, d2_3⟩ := h
  exact ⟨v0, v1, v2, v3, rfl, o0.ints, o1.ints, o2.grid, o3.grid⟩
theorem TrO.ext {lo hi : Nat} {w w' : World} {v : Value} {T : Tr} (h : TrO lo hi w v T) (u : Ext w w') : TrO lo hi w' v T := by
  obtain ⟨v0, v1, v2, v3, r2, r3, rfl, o0, o1, o2, o3, d0_1, d0_2, d0_3, d1_2, d1_3, d2_3⟩ := h
  exact ⟨v0, v1, v2, v3, r2, r3, rfl, o0.ext u, o1.ext u, o2.ext u, o3.ext u, d0_1, d0_2, d0_3, d1_2, d1_3, d2_3⟩
theorem TrO.away {S : Nat → Prop} {lo hi : Nat} {w w' : World} {v : Value} {T : Tr} (h : TrO lo hi w v T) (u : Upd S w w') (hs : ∀ b, S b → b < lo ∨ hi ≤ b) : TrO lo hi w' v T := by
  obtain ⟨v0, v1, v2, v3, r2, r3, rfl, o0, o1, o2, o3, d0_1, d0_2, d0_3, d1_2, d1_3, d2_3⟩ := h
  exact ⟨v0, v1, v2, v3, r2, r3, rfl, o0.away u hs, o1.away u hs, o2.away u hs, o3.away u hs, d0_1, d0_2, d0_3, d1_2, d1_3, d2_3⟩
theorem TrO.mono {lo hi lo' hi' : Nat} {w : World} {v : Value} {T : Tr} (h : TrO lo hi w v T) (h1 : lo' ≤ lo) (h2 : hi ≤ hi') : TrO lo' hi' w v T := by
  obtain ⟨v0, v1, v2, v3, r2, r3, rfl, o0, o1, o2, o3, d0_1, d0_2, d0_3, d1_2, d1_3, d2_3⟩ := h
  exact ⟨v0, v1, v2, v3, r2, r3, rfl, o0.mono h1 h2, o1.mono h1 h2, o2.mono h1 h2, o3.mono h1 h2, d0_1, d0_2, d0_3, d1_2, d1_3, d2_3⟩
theorem TrN.read {lo hi : Nat} {w : World} {v : Value} {T : Tr} (h : TrN lo hi w v T) : TrR w v T := by
  obtain ⟨v0, v1, v2, v3, r2, r3, rfl, o0, o1, o2, o3⟩ := h
  exact ⟨v0, v1, v2, v3, rfl, o0.ints, o1.ints, o2.grid, o3.grid⟩
theorem TrN.ext {lo hi : Nat} {w w' : World} {v : Value} {T : Tr} (h : TrN lo hi w v T) (u : Ext w w') : TrN lo hi w' v T := by
  obtain ⟨v0, v1, v2, v3, r2, r3, rfl, o0, o1, o2, o3⟩ := h
  exact ⟨v0, v1, v2, v3, r2, r3, rfl, o0.ext u, o1.ext u, o2.ext u, o3.ext u⟩
theorem TrN.away {S : Nat → Prop} {lo hi : Nat} {w w' : World} {v : Value} {T : Tr} (h : TrN lo hi w v T) (u : Upd S w w') (hs : ∀ b, S b → b < lo ∨ hi ≤ b) : TrN lo hi w' v T := by
  obtain ⟨v0, v1, v2, v3, r2, r3, rfl, o0, o1, o2, o3⟩ := h
  exact ⟨v0, v1, v2, v3, r2, r3, rfl, o0.away u hs, o1.away u hs, o2.away u hs, o3.away u hs⟩
theorem TrN.mono {lo hi lo' hi' : Nat} {w : World} {v : Value} {T : Tr} (h : TrN lo hi w v T) (h1 : lo' ≤ lo) (h2 : hi ≤ hi') : TrN lo' hi' w v T := by
  obtain ⟨v0, v1, v2, v3, r2, r3, rfl, o0, o1, o2, o3⟩ := h
  exact ⟨v0, v1, v2, v3, r2, r3, rfl, o0.mono h1 h2, o1.mono h1 h2, o2.mono h1 h2, o3.mono h1 h2⟩

def TrSize (T : Tr) : Int := (T.rows.length : Int) + (T.cols.length : Int) + (psum T.lo T.lo.length : Int) + (psum T.hi T.hi.length : Int)
theorem TrSmall.size {T : Tr} (h : TrSmall T) : 0 ≤ TrSize T ∧ TrSize T ≤ 4194304 := by
  obtain ⟨h0, h1, h2, h3⟩ := h
  have := h2.psum T.lo.length (Nat.le_refl _)
  have := h3.psum T.hi.length (Nat.le_refl _)
  unfold TrSize; omega
/-- T', of the shape of T, is marked from k0 on -/
def TrMarked (k0 : Int) (T T' : Tr) : Prop := T'.rows = seqI (k0) T.rows.length ∧ T'.cols = seqI (k0 + (T.rows.length : Int)) T.cols.length ∧ MarkedG (k0 + (T.rows.length : Int) + (T.cols.length : Int)) T.lo T'.lo ∧ MarkedG (k0 + (T.rows.length : Int) + (T.cols.length : Int) + (psum T.lo T.lo.length : Int)) T.hi T'.hi
end Go.Proofs.Ytodnkahnbidgaaa
