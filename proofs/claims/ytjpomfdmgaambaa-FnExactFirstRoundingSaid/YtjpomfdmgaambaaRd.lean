/- Contracts of the laws' helpers over Rounding. -/
import Derived.Test.YtjpomfdmgaambaaSep
namespace Go.Proofs.Ytjpomfdmgaambaa
open Go.RowKit

structure Rd where
  cells : List (List Int)
  rows : List Int
  cols : List Int
  total : Int
/-- the value v reads as T -/
def RdR (w : World) (v : Value) (T : Rd) : Prop := ∃ v0 v1 v2 v3, v = .agg #[v0, v1, v2, v3] ∧ Grid w v0 T.cells ∧ Ints w v1 T.rows ∧ Ints w v2 T.cols ∧ v3 = .int .i64 T.total
def RdWf (T : Rd) : Prop := WfG T.cells ∧ Wf T.rows ∧ Wf T.cols ∧ (-9223372036854775808 ≤ T.total ∧ T.total ≤ 9223372036854775807)
def RdSmall (T : Rd) : Prop := Small T.cells ∧ T.rows.length ≤ 1048576 ∧ T.cols.length ≤ 1048576
theorem RdR.ext {w w' : World} {v : Value} {T : Rd} (h : RdR w v T) (u : Ext w w') : RdR w' v T := by
  obtain ⟨v0, v1, v2, v3, rfl, h0, h1, h2, h3⟩ := h
  exact ⟨_, _, _, _, rfl, h0.ext u, h1.ext u, h2.ext u, h3⟩
theorem RdR.form {w : World} {v : Value} {T : Rd} (h : RdR w v T) : ∃ a0 c0 a1 c1 a2 c2, v = .agg #[.slice a0 T.cells.length c0, .slice a1 T.rows.length c1, .slice a2 T.cols.length c2, .int .i64 T.total] ∧ T.cells.length ≤ 9223372036854775807 ∧ T.rows.length ≤ 9223372036854775807 ∧ T.cols.length ≤ 9223372036854775807 := by
  obtain ⟨v0, v1, v2, v3, rfl, h0, h1, h2, h3⟩ := h
  obtain ⟨a0, c0, rfl, p0, q0, _⟩ := h0
  obtain ⟨a1, c1, rfl, p1, q1, _⟩ := h1
  obtain ⟨a2, c2, rfl, p2, q2, _⟩ := h2
  subst h3
  exact ⟨a0, c0, a1, c1, a2, c2, rfl, by omega, by omega, by omega⟩
theorem RdR.f0 {w : World} {T : Rd} {v0 v1 v2 v3 : Value} (h : RdR w (.agg #[v0, v1, v2, v3]) T) : Grid w v0 T.cells := by
  obtain ⟨x0, x1, x2, x3, e, h0, h1, h2, h3⟩ := h
  simp only [Value.agg.injEq, Array.mk.injEq, List.cons.injEq, and_true] at e
  obtain ⟨rfl, rfl, rfl, rfl⟩ := e
  exact h0
theorem RdR.f1 {w : World} {T : Rd} {v0 v1 v2 v3 : Value} (h : RdR w (.agg #[v0, v1, v2, v3]) T) : Ints w v1 T.rows := by
  obtain ⟨x0, x1, x2, x3, e, h0, h1, h2, h3⟩ := h
  simp only [Value.agg.injEq, Array.mk.injEq, List.cons.injEq, and_true] at e
  obtain ⟨rfl, rfl, rfl, rfl⟩ := e
  exact h1
theorem RdR.f2 {w : World} {T : Rd} {v0 v1 v2 v3 : Value} (h : RdR w (.agg #[v0, v1, v2, v3]) T) : Ints w v2 T.cols := by
  obtain ⟨x0, x1, x2, x3, e, h0, h1, h2, h3⟩ := h
  simp only [Value.agg.injEq, Array.mk.injEq, List.cons.injEq, and_true] at e
  obtain ⟨rfl, rfl, rfl, rfl⟩ := e
  exact h2
/-- the value v reads as T, each field in blocks of its own, which are apart from the other fields' -/
def RdO (lo hi : Nat) (w : World) (v : Value) (T : Rd) : Prop := ∃ (v0 v1 v2 v3 : Value) (r0 : List Value), v = .agg #[v0, v1, v2, v3] ∧ OwnG lo hi w v0 r0 T.cells ∧ Own lo hi w v1 T.rows ∧ Own lo hi w v2 T.cols ∧ Apart (GB v0 r0 T.cells) (IB v1 T.rows) ∧ Apart (GB v0 r0 T.cells) (IB v2 T.cols) ∧ Apart (IB v1 T.rows) (IB v2 T.cols) ∧ v3 = .int .i64 T.total
/-- the same, the fields in ranges that follow one another -/
def RdL (lo hi : Nat) (w : World) (v : Value) (T : Rd) : Prop := ∃ (v0 v1 v2 v3 : Value) (r0 : List Value) (m0 m1 m2 m3 : Nat), v = .agg #[v0, v1, v2, v3] ∧ lo ≤ m0 ∧ m0 ≤ m1 ∧ m1 ≤ m2 ∧ m2 ≤ m3 ∧ m3 ≤ hi ∧ OwnG m0 m1 w v0 r0 T.cells ∧ Own m1 m2 w v1 T.rows ∧ Own m2 m3 w v2 T.cols ∧ v3 = .int .i64 T.total
/-- the value v reads as T, each field in blocks numbered from lo on and below hi -/
def RdN (lo hi : Nat) (w : World) (v : Value) (T : Rd) : Prop := ∃ (v0 v1 v2 v3 : Value) (r0 : List Value), v = .agg #[v0, v1, v2, v3] ∧ OwnG lo hi w v0 r0 T.cells ∧ Own lo hi w v1 T.rows ∧ Own lo hi w v2 T.cols ∧ v3 = .int .i64 T.total
theorem RdL.o {lo hi : Nat} {w : World} {v : Value} {T : Rd} (h : RdL lo hi w v T) : RdO lo hi w v T := by
  obtain ⟨v0, v1, v2, v3, r0, m0, m1, m2, m3, rfl, l0, l1, l2, l3, l9, o0, o1, o2, z3⟩ := h
  exact ⟨v0, v1, v2, v3, r0, rfl, o0.mono (by omega) (by omega), o1.mono (by omega) (by omega), o2.mono (by omega) (by omega), fun b h1 h2 => by have := o0.inside h1; have := o1.inside h2; omega, fun b h1 h2 => by have := o0.inside h1; have := o2.inside h2; omega, fun b h1 h2 => by have := o1.inside h1; have := o2.inside h2; omega, z3⟩
theorem RdO.read {lo hi : Nat} {w : World} {v : Value} {T : Rd} (h : RdO lo hi w v T) : RdR w v T := by
  obtain ⟨v0, v1, v2, v3, r0, rfl, o0, o1, o2, d0_1, d0_2, d1_2, z3⟩ := h
  exact ⟨v0, v1, v2, v3, rfl, o0.grid, o1.ints, o2.ints, z3⟩
theorem RdO.ext {lo hi : Nat} {w w' : World} {v : Value} {T : Rd} (h : RdO lo hi w v T) (u : Ext w w') : RdO lo hi w' v T := by
  obtain ⟨v0, v1, v2, v3, r0, rfl, o0, o1, o2, d0_1, d0_2, d1_2, z3⟩ := h
  exact ⟨v0, v1, v2, v3, r0, rfl, o0.ext u, o1.ext u, o2.ext u, d0_1, d0_2, d1_2, z3⟩
theorem RdO.away {S : Nat → Prop} {lo hi : Nat} {w w' : World} {v : Value} {T : Rd} (h : RdO lo hi w v T) (u : Upd S w w') (hs : ∀ b, S b → b < lo ∨ hi ≤ b) : RdO lo hi w' v T := by
  obtain ⟨v0, v1, v2, v3, r0, rfl, o0, o1, o2, d0_1, d0_2, d1_2, z3⟩ := h
  exact ⟨v0, v1, v2, v3, r0, rfl, o0.away u hs, o1.away u hs, o2.away u hs, d0_1, d0_2, d1_2, z3⟩
theorem RdO.mono {lo hi lo' hi' : Nat} {w : World} {v : Value} {T : Rd} (h : RdO lo hi w v T) (h1 : lo' ≤ lo) (h2 : hi ≤ hi') : RdO lo' hi' w v T := by
  obtain ⟨v0, v1, v2, v3, r0, rfl, o0, o1, o2, d0_1, d0_2, d1_2, z3⟩ := h
  exact ⟨v0, v1, v2, v3, r0, rfl, o0.mono h1 h2, o1.mono h1 h2, o2.mono h1 h2, d0_1, d0_2, d1_2, z3⟩
theorem RdN.read {lo hi : Nat} {w : World} {v : Value} {T : Rd} (h : RdN lo hi w v T) : RdR w v T := by
  obtain ⟨v0, v1, v2, v3, r0, rfl, o0, o1, o2, z3⟩ := h
  exact ⟨v0, v1, v2, v3, rfl, o0.grid, o1.ints, o2.ints, z3⟩
theorem RdN.ext {lo hi : Nat} {w w' : World} {v : Value} {T : Rd} (h : RdN lo hi w v T) (u : Ext w w') : RdN lo hi w' v T := by
  obtain ⟨v0, v1, v2, v3, r0, rfl, o0, o1, o2, z3⟩ := h
  exact ⟨v0, v1, v2, v3, r0, rfl, o0.ext u, o1.ext u, o2.ext u, z3⟩
theorem RdN.away {S : Nat → Prop} {lo hi : Nat} {w w' : World} {v : Value} {T : Rd} (h : RdN lo hi w v T) (u : Upd S w w') (hs : ∀ b, S b → b < lo ∨ hi ≤ b) : RdN lo hi w' v T := by
  obtain ⟨v0, v1, v2, v3, r0, rfl, o0, o1, o2, z3⟩ := h
  exact ⟨v0, v1, v2, v3, r0, rfl, o0.away u hs, o1.away u hs, o2.away u hs, z3⟩
theorem RdN.mono {lo hi lo' hi' : Nat} {w : World} {v : Value} {T : Rd} (h : RdN lo hi w v T) (h1 : lo' ≤ lo) (h2 : hi ≤ hi') : RdN lo' hi' w v T := by
  obtain ⟨v0, v1, v2, v3, r0, rfl, o0, o1, o2, z3⟩ := h
  exact ⟨v0, v1, v2, v3, r0, rfl, o0.mono h1 h2, o1.mono h1 h2, o2.mono h1 h2, z3⟩

set_option maxHeartbeats 1600000 in
theorem eqRounding_t (v1 v2 : Value) (T : Rd) (w : World) (h1 : RdR w v1 T) (h2 : RdR w v2 T) :
    Calls Try.prog 25 #[v1, v2] w fun e w' => e = .returned (.bool true) ∧ Ext w w' := by
  have H1 := Lib.hid h1
  have H2 := Lib.hid h2
  obtain ⟨a0, c0, a1, c1, a2, c2, rfl, _, _, _⟩ := h1.form
  obtain ⟨d0, e0, d1, e1, d2, e2, rfl, _, _, _⟩ := h2.form
  clear h1 h2
  have v0 := ((Ext.refl w).alloc (.cells #[.slice a0 T.cells.length c0, .slice a1 T.rows.length c1, .slice a2 T.cols.length c2, .int .i64 T.total] 44)).alloc (.cells #[.slice d0 T.cells.length e0, .slice d1 T.rows.length e1, .slice d2 T.cols.length e2, .int .i64 T.total] 44)
  have b1_0 := (Box.new w 44 #[.slice a0 T.cells.length c0, .slice a1 T.rows.length c1, .slice a2 T.cols.length c2, .int .i64 T.total] rfl).alloc (.cells #[.slice d0 T.cells.length e0, .slice d1 T.rows.length e1, .slice d2 T.cols.length e2, .int .i64 T.total] 44)
  have b2_0 := Box.new (w.alloc (.cells #[.slice a0 T.cells.length c0, .slice a1 T.rows.length c1, .slice a2 T.cols.length c2, .int .i64 T.total] 44)) 44 #[.slice d0 T.cells.length e0, .slice d1 T.rows.length e1, .slice d2 T.cols.length e2, .int .i64 T.total] (b := w.heap.size + 1) (by simp)
  have qi3 : (T.total != T.total) = false := by simp
  go_enter Try.func25, Try.ntmps25
  have k1_0_0 := b1_0.cell 0 (by simp)
  have k2_0_0 := b2_0.cell 0 (by simp)
  have k1_0_1 := b1_0.cell 1 (by simp)
  have k2_0_1 := b2_0.cell 1 (by simp)
  have k1_0_2 := b1_0.cell 2 (by simp)
  have k2_0_2 := b2_0.cell 2 (by simp)
  have k1_0_3 := b1_0.cell 3 (by simp)
  have k2_0_3 := b2_0.cell 3 (by simp)
  go_wp2_with fail
  refine (eqIntSS_b true _ _ T.cells T.cells _ (by simp) (H1.out.f0.ext v0) (H2.out.f0.ext v0)).mono ?_
  rintro e w1 ⟨rfl, d1_⟩
  have u1 := Drew.ext d1_
  have v1 := v0.trans u1
  have b1_1 := b1_0.ext u1
  have b2_1 := b2_0.ext u1
  have k1_1_0 := b1_1.cell 0 (by simp)
  have k2_1_0 := b2_1.cell 0 (by simp)
  have k1_1_1 := b1_1.cell 1 (by simp)
  have k2_1_1 := b2_1.cell 1 (by simp)
  have k1_1_2 := b1_1.cell 2 (by simp)
  have k2_1_2 := b2_1.cell 2 (by simp)
  have k1_1_3 := b1_1.cell 3 (by simp)
  have k2_1_3 := b2_1.cell 3 (by simp)
  go_wp2_with fail
  refine (eqIntS_b true _ _ T.rows T.rows _ (by simp) (H1.out.f1.ext v1) (H2.out.f1.ext v1)).mono ?_
  rintro e w2 ⟨rfl, d2_⟩
  have u2 := Drew.ext d2_
  have v2 := v1.trans u2
  have b1_2 := b1_1.ext u2
  have b2_2 := b2_1.ext u2
  have k1_2_0 := b1_2.cell 0 (by simp)
  have k2_2_0 := b2_2.cell 0 (by simp)
  have k1_2_1 := b1_2.cell 1 (by simp)
  have k2_2_1 := b2_2.cell 1 (by simp)
  have k1_2_2 := b1_2.cell 2 (by simp)
  have k2_2_2 := b2_2.cell 2 (by simp)
  have k1_2_3 := b1_2.cell 3 (by simp)
  have k2_2_3 := b2_2.cell 3 (by simp)
  go_wp2_with fail
  refine (eqIntS_b true _ _ T.cols T.cols _ (by simp) (H1.out.f2.ext v2) (H2.out.f2.ext v2)).mono ?_
  rintro e w3 ⟨rfl, d3_⟩
  have u3 := Drew.ext d3_
  have v3 := v2.trans u3
  have b1_3 := b1_2.ext u3
  have b2_3 := b2_2.ext u3
  have k1_3_0 := b1_3.cell 0 (by simp)
  have k2_3_0 := b2_3.cell 0 (by simp)
  have k1_3_1 := b1_3.cell 1 (by simp)
  have k2_3_1 := b2_3.cell 1 (by simp)
  have k1_3_2 := b1_3.cell 2 (by simp)
  have k2_3_2 := b2_3.cell 2 (by simp)
  have k1_3_3 := b1_3.cell 3 (by simp)
  have k2_3_3 := b2_3.cell 3 (by simp)
  go_wp2
  go_ret
  exact ⟨rfl, v3⟩
def RdSize (T : Rd) : Int := (psum T.cells T.cells.length : Int) + (T.rows.length : Int) + (T.cols.length : Int)
theorem RdSmall.size {T : Rd} (h : RdSmall T) : 0 ≤ RdSize T ∧ RdSize T ≤ 3145728 := by
  obtain ⟨h0, h1, h2⟩ := h
  have := h0.psum T.cells.length (Nat.le_refl _)
  unfold RdSize; omega
/-- T', of the shape of T, is marked from k0 on -/
def RdMarked (k0 : Int) (T T' : Rd) : Prop := MarkedG (k0) T.cells T'.cells ∧ T'.rows = seqI (k0 + (psum T.cells T.cells.length : Int)) T.rows.length ∧ T'.cols = seqI (k0 + (psum T.cells T.cells.length : Int) + (T.rows.length : Int)) T.cols.length
set_option maxHeartbeats 1600000 in
theorem markRounding_c (lo hi : Nat) (v : Value) (T : Rd) (k0 : Int) (w : World) (h : RdO lo hi w v T) (s : RdSmall T) (hk0 : 0 ≤ k0 ∧ k0 ≤ 1099500000000) :
    Calls Try.prog 26 #[v, .int .i64 k0] w fun e w' => e = .returned (.int .i64 (k0 + RdSize T)) ∧ (∃ T', RdO lo hi w' v T' ∧ RdMarked k0 T T') ∧ Upd (fun b => lo ≤ b ∧ b < hi) w w' := by
  have HS := Lib.hid s; clear s
  obtain ⟨a0, c0, a1, c1, a2, c2, rfl, _⟩ := h.read.form
  obtain ⟨v0, v1, v2, v3, r0, hv, o0, o1, o2, d0_1, d0_2, d1_2, z3⟩ := h
  simp only [Value.agg.injEq, Array.mk.injEq, List.cons.injEq, and_true] at hv
  obtain ⟨rfl, rfl, rfl, rfl⟩ := hv
  have u0 := (Ext.refl w).alloc (.cells #[.slice a0 T.cells.length c0, .slice a1 T.rows.length c1, .slice a2 T.cols.length c2, .int .i64 T.total] 44)
  have b0 := Box.new w 44 #[.slice a0 T.cells.length c0, .slice a1 T.rows.length c1, .slice a2 T.cols.length c2, .int .i64 T.total] rfl
  have IN0 := Lib.hid (show ∀ b, GB (.slice a0 T.cells.length c0) r0 T.cells b → lo ≤ b ∧ b < hi ∧ b < w.heap.size from fun b hb => o0.inside hb)
  have IN1 := Lib.hid (show ∀ b, IB (.slice a1 T.rows.length c1) T.rows b → lo ≤ b ∧ b < hi ∧ b < w.heap.size from fun b hb => o1.inside hb)
  have IN2 := Lib.hid (show ∀ b, IB (.slice a2 T.cols.length c2) T.cols b → lo ≤ b ∧ b < hi ∧ b < w.heap.size from fun b hb => o2.inside hb)
  have D0_1 := Lib.hid d0_1; clear d0_1
  have D0_2 := Lib.hid d0_2; clear d0_2
  have D1_2 := Lib.hid d1_2; clear d1_2
  have O0_0 := Lib.hid (o0.ext u0); clear o0
  have O1_0 := Lib.hid (o1.ext u0); clear o1
  have O2_0 := Lib.hid (o2.ext u0); clear o2
  obtain ⟨t0, ht0⟩ : ∃ t, k0 + (psum T.cells T.cells.length : Int) = t := ⟨_, rfl⟩
  have tb0 : 0 ≤ t0 ∧ t0 ≤ 1099501048576 := by have := HS.out.1.psum _ (Nat.le_refl _); omega
  have HT0 := Lib.hid ht0; clear ht0
  obtain ⟨t1, ht1⟩ : ∃ t, t0 + (T.rows.length : Int) = t := ⟨_, rfl⟩
  have tb1 : 0 ≤ t1 ∧ t1 ≤ 1099502097152 := by have := HS.out.2.1; omega
  have HT1 := Lib.hid ht1; clear ht1
  obtain ⟨t2, ht2⟩ : ∃ t, t1 + (T.cols.length : Int) = t := ⟨_, rfl⟩
  have tb2 : 0 ≤ t2 ∧ t2 ≤ 1099503145728 := by have := HS.out.2.2; omega
  have HT2 := Lib.hid ht2; clear ht2
  have k0_0 := b0.cell 0 (by simp)
  have k0_1 := b0.cell 1 (by simp)
  have k0_2 := b0.cell 2 (by simp)
  have k0_3 := b0.cell 3 (by simp)
  go_enter Try.func26, Try.ntmps26
  go_wp2_with fail
  refine (markIntSS_c _ _ _ _ T.cells k0 _ O0_0.out HS.out.1.row HS.out.1.psum (by omega)).mono ?_
  rw [HT0.out]
  rintro e w1 ⟨rfl, ⟨ys0, om0, mk0⟩, uu1⟩
  have MK0 := Lib.hid mk0; clear mk0
  have U1 : Hid (Upd (fun b => rowBlks r0 T.cells b ∧ b ≠ w.heap.size) _ w1) := Lib.hid (uu1.mono (fun b _ hb => ⟨hb, by have := IN0.out b (.inr hb); omega⟩))
  have OM0_1 := Lib.hid om0; clear om0 uu1
  have b1 := b0.upd U1.out (fun hb => hb.2 rfl)
  have k1_0 := b1.cell 0 (by simp)
  have k1_1 := b1.cell 1 (by simp)
  have k1_2 := b1.cell 2 (by simp)
  have k1_3 := b1.cell 3 (by simp)
  have O1_1 := Lib.hid (O1_0.out.keepB U1.out (fun b hb hs => D0_1.out b (.inr hs.1) hb))
  have O2_1 := Lib.hid (O2_0.out.keepB U1.out (fun b hb hs => D0_2.out b (.inr hs.1) hb))
  go_wp2_with fail
  refine (markIntS_c _ _ _ T.rows t0 _ O1_1.out HS.out.2.1 (by omega)).mono ?_
  rw [HT1.out]
  rintro e w2 ⟨rfl, om1, uu2⟩
  have U2 : Hid (Upd (fun b => IB (.slice a1 T.rows.length c1) T.rows b ∧ b ≠ w.heap.size) _ w2) := Lib.hid (uu2.mono (fun b _ hb => ⟨hb, by have := IN1.out b hb; omega⟩))
  have OM1_2 := Lib.hid om1; clear om1 uu2
  have b2 := b1.upd U2.out (fun hb => hb.2 rfl)
  have k2_0 := b2.cell 0 (by simp)
  have k2_1 := b2.cell 1 (by simp)
  have k2_2 := b2.cell 2 (by simp)
  have k2_3 := b2.cell 3 (by simp)
  have OM0_2 := Lib.hid (OM0_1.out.keepB U2.out (fun b hb hs => D0_1.out b (GB.of_marked MK0.out hb) hs.1))
  have O2_2 := Lib.hid (O2_1.out.keepB U2.out (fun b hb hs => D1_2.out b hs.1 hb))
  go_wp2_with fail
  refine (markIntS_c _ _ _ T.cols t1 _ O2_2.out HS.out.2.2 (by omega)).mono ?_
  rw [HT2.out]
  rintro e w3 ⟨rfl, om2, uu3⟩
  have U3 : Hid (Upd (fun b => IB (.slice a2 T.cols.length c2) T.cols b ∧ b ≠ w.heap.size) _ w3) := Lib.hid (uu3.mono (fun b _ hb => ⟨hb, by have := IN2.out b hb; omega⟩))
  have OM2_3 := Lib.hid om2; clear om2 uu3
  have b3 := b2.upd U3.out (fun hb => hb.2 rfl)
  have k3_0 := b3.cell 0 (by simp)
  have k3_1 := b3.cell 1 (by simp)
  have k3_2 := b3.cell 2 (by simp)
  have k3_3 := b3.cell 3 (by simp)
  have OM0_3 := Lib.hid (OM0_2.out.keepB U3.out (fun b hb hs => D0_2.out b (GB.of_marked MK0.out hb) hs.1))
  have OM1_3 := Lib.hid (OM1_2.out.keepB U3.out (fun b hb hs => D1_2.out b (IB.of_len (seqI_length _ _) hb) hs.1))
  go_wp2
  go_ret
  refine ⟨ret_int (by unfold RdSize; have := HT0.out; have := HT1.out; have := HT2.out;  omega), ⟨⟨ys0, seqI t0 T.rows.length, seqI t1 T.cols.length, T.total⟩, ⟨.slice a0 T.cells.length c0, .slice a1 T.rows.length c1, .slice a2 T.cols.length c2, _, r0, rfl, by first | exact OM0_3.out | (simpa using OM0_3.out), by first | exact OM1_3.out | (simpa using OM1_3.out), by first | exact OM2_3.out | (simpa using OM2_3.out), fun b h1 h2 => D0_1.out b (GB.of_marked MK0.out h1) (IB.of_len (seqI_length _ _) h2), fun b h1 h2 => D0_2.out b (GB.of_marked MK0.out h1) (IB.of_len (seqI_length _ _) h2), fun b h1 h2 => D1_2.out b (IB.of_len (seqI_length _ _) h1) (IB.of_len (seqI_length _ _) h2), rfl⟩, ?_⟩, ?_⟩
  · refine ⟨MK0.out, by rw [HT0.out], by rw [HT0.out, HT1.out]⟩
  · exact u0.then_upd (((U1.out.mono (fun b _ hb => by have := IN0.out b (.inr hb.1); omega)).trans (U2.out.mono (fun b _ hb => by have := IN1.out b hb.1; omega))).trans (U3.out.mono (fun b _ hb => by have := IN2.out b hb.1; omega)))
set_option maxHeartbeats 1600000 in
theorem heldRounding_c (v : Value) (T T' : Rd) (k0 : Int) (w : World) (h : RdR w v T') (hm : RdMarked k0 T T') (s : RdSmall T) (hk0 : 0 ≤ k0 ∧ k0 ≤ 1099500000000) :
    Calls Try.prog 27 #[v, .int .i64 k0] w fun e w' => e = .returned (.int .i64 (k0 + RdSize T)) ∧ Ext w w' := by
  have HS := Lib.hid s; clear s
  have H := Lib.hid h
  have HM := Lib.hid hm; clear hm
  obtain ⟨a0, c0, a1, c1, a2, c2, rfl, _⟩ := h.form
  clear h
  have u0 := (Ext.refl w).alloc (.cells #[.slice a0 T'.cells.length c0, .slice a1 T'.rows.length c1, .slice a2 T'.cols.length c2, .int .i64 T'.total] 44)
  have b0 := Box.new w 44 #[.slice a0 T'.cells.length c0, .slice a1 T'.rows.length c1, .slice a2 T'.cols.length c2, .int .i64 T'.total] rfl
  obtain ⟨t0, ht0⟩ : ∃ t, k0 + (psum T.cells T.cells.length : Int) = t := ⟨_, rfl⟩
  have tb0 : 0 ≤ t0 ∧ t0 ≤ 1099501048576 := by have := HS.out.1.psum _ (Nat.le_refl _); omega
  have tn0 : ¬ (t0 < 0) := by omega
  have HT0 := Lib.hid ht0; clear ht0
  obtain ⟨t1, ht1⟩ : ∃ t, t0 + (T.rows.length : Int) = t := ⟨_, rfl⟩
  have tb1 : 0 ≤ t1 ∧ t1 ≤ 1099502097152 := by have := HS.out.2.1; omega
  have tn1 : ¬ (t1 < 0) := by omega
  have HT1 := Lib.hid ht1; clear ht1
  obtain ⟨t2, ht2⟩ : ∃ t, t1 + (T.cols.length : Int) = t := ⟨_, rfl⟩
  have tb2 : 0 ≤ t2 ∧ t2 ≤ 1099503145728 := by have := HS.out.2.2; omega
  have tn2 : ¬ (t2 < 0) := by omega
  have HT2 := Lib.hid ht2; clear ht2
  have k0_0 := b0.cell 0 (by simp)
  have k0_1 := b0.cell 1 (by simp)
  have k0_2 := b0.cell 2 (by simp)
  have k0_3 := b0.cell 3 (by simp)
  go_enter Try.func27, Try.ntmps27
  go_wp2_with fail
  refine (heldIntSS_c _ T.cells T'.cells k0 _ (H.out.f0.ext u0) (by have := HM.out.1; exact this) HS.out.1.row HS.out.1.psum (by omega)).mono ?_
  rw [HT0.out]
  rintro e w' ⟨rfl, rfl⟩
  go_wp2_with fail
  refine (heldIntS_c _ T.rows.length t0 _ (by have := HM.out.2.1; rw [HT0.out] at this; have h2 := H.out.f1.ext u0; rw [← this]; exact h2) HS.out.2.1 (by omega)).mono ?_
  rw [HT1.out]
  rintro e w' ⟨rfl, rfl⟩
  go_wp2_with fail
  refine (heldIntS_c _ T.cols.length t1 _ (by have := HM.out.2.2; rw [HT0.out] at this; rw [HT1.out] at this; have h2 := H.out.f2.ext u0; rw [← this]; exact h2) HS.out.2.2 (by omega)).mono ?_
  rw [HT2.out]
  rintro e w' ⟨rfl, rfl⟩
  go_wp2
  go_ret
  exact ⟨ret_int (by unfold RdSize; have := HT0.out; have := HT1.out; have := HT2.out;  omega), u0⟩
end Go.Proofs.Ytjpomfdmgaambaa
