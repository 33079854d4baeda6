/- Tables and geographies: how they are read, and the contracts of the laws' own helpers over one of them. -/
import Derived.Test.YtolmmhdeebgglaaCls
import Derived.Test.YtolmmhdeebgglaaSep
namespace Go.Proofs.Ytolmmhdeebgglaa
open Go.RowKit

/-- a table: its level, its variables, its conditions, the variable that is summed -/
structure Ta where
  level : Int
  vars : List Int
  cond : List Int
  sum : Int
noncomputable instance instDecTa : DecidableEq Ta := fun _ _ => Classical.propDecidable _
def ta0 : Ta := ⟨0, [], [], 0⟩
def taAt (l : List Ta) (k : Nat) : Ta := l.getD k ta0
theorem taAt_eq {l : List Ta} {k : Nat} (h : k < l.length) : taAt l k = l[k] := by simp [taAt, List.getD, h]
theorem taAt_mem {l : List Ta} {k : Nat} (h : k < l.length) : taAt l k ∈ l := by rw [taAt_eq h]; exact List.getElem_mem h
theorem list_ext_ta {s t : List Ta} (hl : s.length = t.length) (h : ∀ k, k < s.length → taAt s k = taAt t k) : s = t := by
  apply List.ext_getElem hl
  intro i h1 h2
  have := h i h1
  rwa [taAt_eq h1, taAt_eq h2] at this
theorem take_succ_ta {xs : List Ta} {k : Nat} (h : k < xs.length) : xs.take (k + 1) = xs.take k ++ [taAt xs k] := by
  rw [taAt_eq h, List.take_succ_eq_append_getElem h]
def TaR (w : World) (v : Value) (T : Ta) : Prop := ∃ v1 v2, v = .agg #[.int .i64 T.level, v1, v2, .int .i64 T.sum] ∧ Ints w v1 T.vars ∧ Ints w v2 T.cond
def TaWf (T : Ta) : Prop := (-9223372036854775808 ≤ T.level ∧ T.level ≤ 9223372036854775807) ∧ Wf T.vars ∧ Wf T.cond ∧ (-9223372036854775808 ≤ T.sum ∧ T.sum ≤ 9223372036854775807)
def TaSmall (T : Ta) : Prop := T.vars.length ≤ 1048576 ∧ T.cond.length ≤ 1048576
def WfT (l : List Ta) : Prop := ∀ r ∈ l, TaWf r
theorem TaR.ext {w w' : World} {v : Value} {T : Ta} (h : TaR w v T) (u : Ext w w') : TaR w' v T := by
  obtain ⟨v1, v2, rfl, h1, h2⟩ := h
  exact ⟨v1, v2, rfl, h1.ext u, h2.ext u⟩
theorem TaR.form {w : World} {v : Value} {T : Ta} (h : TaR w v T) : ∃ a1 c1 a2 c2, v = .agg #[.int .i64 T.level, .slice a1 T.vars.length c1, .slice a2 T.cond.length c2, .int .i64 T.sum] ∧ T.vars.length ≤ 9223372036854775807 ∧ T.cond.length ≤ 9223372036854775807 := by
  obtain ⟨v1, v2, rfl, h1, h2⟩ := h
  obtain ⟨a1, c1, rfl, p1, q1, _⟩ := h1
  obtain ⟨a2, c2, rfl, p2, q2, _⟩ := h2
  exact ⟨a1, c1, a2, c2, rfl, by omega, by omega⟩
theorem TaR.f1 {w : World} {T : Ta} {v0 v1 v2 v3 : Value} (h : TaR w (.agg #[v0, v1, v2, v3]) T) : Ints w v1 T.vars := by
  obtain ⟨x1, x2, e, h1, h2⟩ := h
  simp only [Value.agg.injEq, Array.mk.injEq, List.cons.injEq, and_true] at e
  obtain ⟨rfl, rfl, rfl, rfl⟩ := e
  exact h1
theorem TaR.f2 {w : World} {T : Ta} {v0 v1 v2 v3 : Value} (h : TaR w (.agg #[v0, v1, v2, v3]) T) : Ints w v2 T.cond := by
  obtain ⟨x1, x2, e, h1, h2⟩ := h
  simp only [Value.agg.injEq, Array.mk.injEq, List.cons.injEq, and_true] at e
  obtain ⟨rfl, rfl, rfl, rfl⟩ := e
  exact h2
/-- the same in blocks of its own -/
def TaO (lo hi : Nat) (w : World) (v : Value) (T : Ta) : Prop := ∃ v1 v2, v = .agg #[.int .i64 T.level, v1, v2, .int .i64 T.sum] ∧ Own lo hi w v1 T.vars ∧ Own lo hi w v2 T.cond ∧ (T.vars ≠ [] → T.cond ≠ [] → blk v1 ≠ blk v2)
namespace TaO
variable {lo hi lo' hi' : Nat} {S : Nat → Prop} {w w' : World} {v : Value} {T : Ta}
theorem read (h : TaO lo hi w v T) : TaR w v T := by
  obtain ⟨v1, v2, rfl, h1, h2, _⟩ := h
  exact ⟨v1, v2, rfl, h1.ints, h2.ints⟩
theorem ext (h : TaO lo hi w v T) (u : Ext w w') : TaO lo hi w' v T := by
  obtain ⟨v1, v2, rfl, h1, h2, h3⟩ := h
  exact ⟨v1, v2, rfl, h1.ext u, h2.ext u, h3⟩
theorem away (h : TaO lo hi w v T) (u : Upd S w w') (hs : ∀ b, S b → b < lo ∨ hi ≤ b) : TaO lo hi w' v T := by
  obtain ⟨v1, v2, rfl, h1, h2, h3⟩ := h
  exact ⟨v1, v2, rfl, h1.away u hs, h2.away u hs, h3⟩
theorem mono (h : TaO lo hi w v T) (h1 : lo' ≤ lo) (h2 : hi ≤ hi') : TaO lo' hi' w v T := by
  obtain ⟨v1, v2, rfl, o1, o2, h3⟩ := h
  exact ⟨v1, v2, rfl, o1.mono h1 h2, o2.mono h1 h2, h3⟩
end TaO
def TaSize (T : Ta) : Int := (T.vars.length : Int) + (T.cond.length : Int)
theorem TaSmall.size {T : Ta} (h : TaSmall T) : 0 ≤ TaSize T ∧ TaSize T ≤ 2097152 := by
  unfold TaSize; have := h.1; have := h.2; omega

set_option maxHeartbeats 800000 in
theorem szTable_c (v : Value) (T : Ta) (left : Int) (w : World) (h : TaR w v T) (h0 : 0 ≤ left ∧ left ≤ 1048576) :
    Calls Try.prog 28 #[v, .int .i64 left] w fun e w' => ∃ r, e = .returned (.int .i64 r) ∧ (r < 0 ∨ (0 ≤ r ∧ r + TaSize T = left ∧ TaSmall T)) ∧ Ext w w' := by
  obtain ⟨a1, c1, a2, c2, rfl, n1, n2⟩ := h.form
  clear h
  obtain ⟨A, hA⟩ : ∃ A, T.level = A := ⟨_, rfl⟩
  obtain ⟨B, hB⟩ : ∃ B, T.sum = B := ⟨_, rfl⟩
  rw [hA, hB]
  clear hA hB
  obtain ⟨n, hn⟩ : ∃ n, T.vars.length = n := ⟨_, rfl⟩
  obtain ⟨m, hm⟩ : ∃ m, T.cond.length = m := ⟨_, rfl⟩
  rw [hn] at n1 ⊢
  rw [hm] at n2 ⊢
  have HN := Lib.hid (And.intro hn hm); clear hn hm
  have u0 := (Ext.refl w).alloc (.cells #[.int .i64 A, .slice a1 n c1, .slice a2 m c2, .int .i64 B] 53)
  have b0 := Box.new w 53 #[.int .i64 A, .slice a1 n c1, .slice a2 m c2, .int .i64 B] rfl
  have k1 := b0.cell 1 (by simp)
  have k2 := b0.cell 2 (by simp)
  rcases szI_cases left n with ⟨e, e2⟩ | ⟨e, e2⟩
  · have E := Lib.hid e; clear e
    go_enter Try.func28, Try.ntmps28
    go_wp2_with fail
    refine (szIntS_c a1 n c1 left _ n1 h0).mono ?_
    rw [E.out]
    rintro e w' ⟨rfl, rfl⟩
    go_wp2
    go_ret
    exact ⟨_, rfl, .inl (by omega), u0⟩
  · have E := Lib.hid e; clear e
    rcases szI_cases (left - n) m with ⟨f, f2⟩ | ⟨f, f2⟩
    · have F := Lib.hid f; clear f
      go_enter Try.func28, Try.ntmps28
      go_wp2_with fail
      refine (szIntS_c a1 n c1 left _ n1 h0).mono ?_
      rw [E.out]
      rintro e w' ⟨rfl, rfl⟩
      go_wp2_with fail
      refine (szIntS_c a2 m c2 _ _ n2 (by omega)).mono ?_
      rw [F.out]
      rintro e w' ⟨rfl, rfl⟩
      go_wp2
      go_ret
      exact ⟨_, rfl, .inl (by omega), u0⟩
    · have F := Lib.hid f; clear f
      go_enter Try.func28, Try.ntmps28
      go_wp2_with fail
      refine (szIntS_c a1 n c1 left _ n1 h0).mono ?_
      rw [E.out]
      rintro e w' ⟨rfl, rfl⟩
      go_wp2_with fail
      refine (szIntS_c a2 m c2 _ _ n2 (by omega)).mono ?_
      rw [F.out]
      rintro e w' ⟨rfl, rfl⟩
      go_wp2
      go_ret
      exact ⟨_, rfl, .inr ⟨by omega, by unfold TaSize; rw [HN.out.1, HN.out.2]; omega, ⟨by rw [HN.out.1]; omega, by rw [HN.out.2]; omega⟩⟩, u0⟩
set_option maxHeartbeats 800000 in
theorem eqTable_t (v1 v2 : Value) (T : Ta) (w : World) (h1 : TaR w v1 T) (h2 : TaR w v2 T) :
    Calls Try.prog 33 #[v1, v2] w fun e w' => e = .returned (.bool true) ∧ Ext w w' := by
  obtain ⟨r1, r2, rfl, i1, i2⟩ := h1
  obtain ⟨r3, r4, rfl, i3, i4⟩ := h2
  have I1 := Lib.hid i1; clear i1
  have I2 := Lib.hid i2; clear i2
  have I3 := Lib.hid i3; clear i3
  have I4 := Lib.hid i4; clear i4
  obtain ⟨A, hA⟩ : ∃ A, T.level = A := ⟨_, rfl⟩
  obtain ⟨B, hB⟩ : ∃ B, T.sum = B := ⟨_, rfl⟩
  rw [hA, hB]
  clear hA hB
  have u0 := ((Ext.refl w).alloc (.cells #[.int .i64 A, r1, r2, .int .i64 B] 56)).alloc (.cells #[.int .i64 A, r3, r4, .int .i64 B] 56)
  have b1 := (Box.new w 56 #[.int .i64 A, r1, r2, .int .i64 B] rfl).alloc (.cells #[.int .i64 A, r3, r4, .int .i64 B] 56)
  have b2 := Box.new (w.alloc (.cells #[.int .i64 A, r1, r2, .int .i64 B] 56)) 56 #[.int .i64 A, r3, r4, .int .i64 B] (b := w.heap.size + 1) (by simp)
  have qa : (A != A) = false := by simp
  have qb : (B != B) = false := by simp
  have c0 := b1.cell 0 (by simp)
  have c1 := b1.cell 1 (by simp)
  have c2 := b1.cell 2 (by simp)
  have c3 := b1.cell 3 (by simp)
  have d0 := b2.cell 0 (by simp)
  have d1 := b2.cell 1 (by simp)
  have d2 := b2.cell 2 (by simp)
  have d3 := b2.cell 3 (by simp)
  go_enter Try.func33, Try.ntmps33
  go_wp2_with fail
  refine (eqIntS_b true _ _ T.vars T.vars _ (by simp) (I1.out.ext u0) (I3.out.ext u0)).mono ?_
  rintro e w1 ⟨rfl, e1⟩
  have x1 := Drew.ext e1
  have c2 := Ext.cell x1 c2
  have c3 := Ext.cell x1 c3
  have d2 := Ext.cell x1 d2
  have d3 := Ext.cell x1 d3
  go_wp2_with fail
  refine (eqIntS_b true _ _ T.cond T.cond _ (by simp) (I2.out.ext (u0.trans x1)) (I4.out.ext (u0.trans x1))).mono ?_
  rintro e w2 ⟨rfl, e2⟩
  have x2 := Drew.ext e2
  have c3 := Ext.cell x2 c3
  have d3 := Ext.cell x2 d3
  go_wp2
  go_ret
  exact ⟨rfl, (u0.trans x1).trans x2⟩
set_option maxHeartbeats 1600000 in
theorem toTable_c (v : Value) (T : Ta) (w : World) (h : TaR w v T) (hs : TaSmall T) :
    Calls Try.prog 30 #[v] w fun e w' => ∃ v', e = .returned v' ∧ TaO w.heap.size w'.heap.size w' v' T ∧ Ext w w' := by
  obtain ⟨r1, r2, rfl, i1, i2⟩ := h
  have I1 := Lib.hid i1
  have I2 := Lib.hid i2
  obtain ⟨a1, c1, rfl, p1, p2, p3⟩ := i1
  obtain ⟨a2, c2, rfl, p4, p5, p6⟩ := i2
  clear p3 p6
  have HS := Lib.hid hs; clear hs
  have HT : Hid (∀ (x y : Value) (lo hi : Nat) (w9 : World), Own lo hi w9 x T.vars → Own lo hi w9 y T.cond → (T.vars ≠ [] → T.cond ≠ [] → blk x ≠ blk y) → TaO lo hi w9 (.agg #[.int .i64 T.level, x, y, .int .i64 T.sum]) T) := Lib.hid (fun x y lo hi w9 o1 o2 d => ⟨x, y, rfl, o1, o2, d⟩)
  obtain ⟨A, hA⟩ : ∃ A, T.level = A := ⟨_, rfl⟩
  obtain ⟨B, hB⟩ : ∃ B, T.sum = B := ⟨_, rfl⟩
  rw [hA, hB] at HT ⊢
  clear hA hB
  obtain ⟨n, hn⟩ : ∃ n, T.vars.length = n := ⟨_, rfl⟩
  obtain ⟨m, hm⟩ : ∃ m, T.cond.length = m := ⟨_, rfl⟩
  rw [hn] at p1 I1 ⊢
  rw [hm] at p4 I2 ⊢
  have HN := Lib.hid hn; clear hn
  have HM := Lib.hid hm; clear hm
  have u0 := (((Ext.refl w).alloc (.cells #[.int .i64 A, .slice a1 n c1, .slice a2 m c2, .int .i64 B] 53)).alloc (.cells #[.int .i64 0, .slice none 0 0, .slice none 0 0, .int .i64 0] 56)).alloc (.cells #[.int .i64 A, .slice none 0 0, .slice none 0 0, .int .i64 0] 56)
  have bx := ((Box.new w 53 #[.int .i64 A, .slice a1 n c1, .slice a2 m c2, .int .i64 B] rfl).alloc (.cells #[.int .i64 0, .slice none 0 0, .slice none 0 0, .int .i64 0] 56)).alloc (.cells #[.int .i64 A, .slice none 0 0, .slice none 0 0, .int .i64 0] 56)
  have br := (Box.new (w.alloc (.cells #[.int .i64 A, .slice a1 n c1, .slice a2 m c2, .int .i64 B] 53)) 56 #[.int .i64 0, .slice none 0 0, .slice none 0 0, .int .i64 0] (b := w.heap.size + 1) (by simp)).alloc (.cells #[.int .i64 A, .slice none 0 0, .slice none 0 0, .int .i64 0] 56)
  have bo := Box.new ((w.alloc (.cells #[.int .i64 A, .slice a1 n c1, .slice a2 m c2, .int .i64 B] 53)).alloc (.cells #[.int .i64 0, .slice none 0 0, .slice none 0 0, .int .i64 0] 56)) 56 #[.int .i64 A, .slice none 0 0, .slice none 0 0, .int .i64 0] (b := w.heap.size + 1 + 1) (by simp)
  have cx := bx.cell 1 (by simp)
  go_enter Try.func30, Try.ntmps30
  go_wp2_with fail
  obtain ⟨wq, hwq⟩ : ∃ wq, wq = ((w.alloc (.cells #[.int .i64 A, .slice a1 n c1, .slice a2 m c2, .int .i64 B] 53)).alloc (.cells #[.int .i64 0, .slice none 0 0, .slice none 0 0, .int .i64 0] 56)).alloc (.cells #[.int .i64 A, .slice none 0 0, .slice none 0 0, .int .i64 0] 56) := ⟨_, rfl⟩
  have szq : wq.heap.size = w.heap.size + 3 := by rw [hwq]; simp
  rw [← hwq] at u0 bx br bo ⊢
  have HSQ := Lib.hid szq; clear szq hwq cx
  refine (toIntS_c _ T.vars _ (I1.out.ext u0) HS.out.1).mono ?_
  rintro e w1 ⟨x1, rfl, o1, u1⟩
  have O1 := Lib.hid o1
  obtain ⟨a3, c3, rfl, _, _, q3⟩ := o1
  clear q3
  have bx1 := (bx.ext u1).upd ((show Upd (fun b => b = w.heap.size + 1 + 1) w1 w1 from Upd.refl w1).setCell (a := ⟨w.heap.size + 1 + 1, 1, none⟩) (.slice a3 T.vars.length c3) (fun _ => rfl)) (by omega)
  have br1 := (br.ext u1).upd ((show Upd (fun b => b = w.heap.size + 1 + 1) w1 w1 from Upd.refl w1).setCell (a := ⟨w.heap.size + 1 + 1, 1, none⟩) (.slice a3 T.vars.length c3) (fun _ => rfl)) (by omega)
  have bo0 := bo.ext u1
  have bo1 := bo0.set 1 (.slice a3 T.vars.length c3)
  have f1 := bo0.free 1
  have k1 := bo0.cell 1 (by simp)
  have cx2 := (bx.ext u1).cell 2 (by simp)
  have hs1 := u1.size
  rw [HN.out] at bx1 br1 bo1 O1 ⊢
  have U1 := (u0.trans u1).setCell (a := ⟨w.heap.size + 1 + 1, 1, none⟩) (.slice a3 n c3) (by simp only; omega)
  go_wp2_with fail
  obtain ⟨w2, hw2⟩ : ∃ w2, w2 = w1.setCell ⟨w.heap.size + 1 + 1, 1, none⟩ (.slice a3 n c3) := ⟨_, rfl⟩
  have sz2 : w2.heap.size = w1.heap.size := by rw [hw2]; simp [World.setCell]
  have O2 := Lib.hid (show Own wq.heap.size w1.heap.size w2 (.slice a3 n c3) T.vars by rw [hw2]; exact O1.out.put_away _ _ (.inl (by simp only; have := HSQ.out; omega)))
  rw [← hw2] at bx1 br1 bo1 U1 ⊢
  have HS2 := Lib.hid sz2
  clear hw2 sz2 f1 k1 cx2
  refine (toIntS_c _ T.cond _ (I2.out.ext U1) HS.out.2).mono ?_
  rintro e w3 ⟨x3, rfl, o3, u3⟩
  have O3 := Lib.hid o3
  obtain ⟨a4, c4, rfl, _, _, q3⟩ := o3
  clear q3
  rw [HM.out] at O3 ⊢
  have bo3 := bo1.ext u3
  have bx3 := bx1.ext u3
  have br3 := br1.ext u3
  have cx3 := bx3.cell 3 (by simp)
  have k0 := bo3.cell 0 (by simp)
  have k1 := bo3.cell 1 (by simp)
  have k2 := bo3.cell 2 (by simp)
  have k3 := bo3.cell 3 (by simp)
  have f2 := bo3.free 2
  have f3 := bo3.free 3
  have l0 := br3.cell 0 (by simp)
  have l1 := br3.cell 1 (by simp)
  have l2 := br3.cell 2 (by simp)
  have l3 := br3.cell 3 (by simp)
  have g0 := br3.free 0
  have g1 := br3.free 1
  have g2 := br3.free 2
  have g3 := br3.free 3
  have hs3 := u3.size
  have O2' := O2.out.ext u3
  have hlt2 : T.vars ≠ [] → blk (.slice a3 n c3) < w1.heap.size := fun h => (O2.out.range h).2.1
  have hlt3 : T.cond ≠ [] → w2.heap.size ≤ blk (.slice a4 m c4) := fun h => (O3.out.range h).1
  have P1 := (((((O2'.put_away ⟨w.heap.size + 1 + 1, 2, none⟩ (.slice a4 m c4) (.inl (by simp only; have := HSQ.out; omega))).put_away ⟨w.heap.size + 1 + 1, 3, none⟩ (.int .i64 B) (.inl (by simp only; have := HSQ.out; omega))).put_away ⟨w.heap.size + 1, 0, none⟩ (.int .i64 A) (.inl (by simp only; have := HSQ.out; omega))).put_away ⟨w.heap.size + 1, 1, none⟩ (.slice a3 n c3) (.inl (by simp only; have := HSQ.out; omega))).put_away ⟨w.heap.size + 1, 2, none⟩ (.slice a4 m c4) (.inl (by simp only; have := HSQ.out; omega))).put_away ⟨w.heap.size + 1, 3, none⟩ (.int .i64 B) (.inl (by simp only; have := HSQ.out; omega))
  have P2 := (((((O3.out.put_away ⟨w.heap.size + 1 + 1, 2, none⟩ (.slice a4 m c4) (.inl (by simp only; have := HSQ.out; have := HS2.out; omega))).put_away ⟨w.heap.size + 1 + 1, 3, none⟩ (.int .i64 B) (.inl (by simp only; have := HSQ.out; have := HS2.out; omega))).put_away ⟨w.heap.size + 1, 0, none⟩ (.int .i64 A) (.inl (by simp only; have := HSQ.out; have := HS2.out; omega))).put_away ⟨w.heap.size + 1, 1, none⟩ (.slice a3 n c3) (.inl (by simp only; have := HSQ.out; have := HS2.out; omega))).put_away ⟨w.heap.size + 1, 2, none⟩ (.slice a4 m c4) (.inl (by simp only; have := HSQ.out; have := HS2.out; omega))).put_away ⟨w.heap.size + 1, 3, none⟩ (.int .i64 B) (.inl (by simp only; have := HSQ.out; have := HS2.out; omega))
  have E3 := ((((((U1.trans u3).setCell (a := ⟨w.heap.size + 1 + 1, 2, none⟩) (.slice a4 m c4) (by simp only; omega)).setCell (a := ⟨w.heap.size + 1 + 1, 3, none⟩) (.int .i64 B) (by simp only; omega)).setCell (a := ⟨w.heap.size + 1, 0, none⟩) (.int .i64 A) (by simp only; omega)).setCell (a := ⟨w.heap.size + 1, 1, none⟩) (.slice a3 n c3) (by simp only; omega)).setCell (a := ⟨w.heap.size + 1, 2, none⟩) (.slice a4 m c4) (by simp only; omega)).setCell (a := ⟨w.heap.size + 1, 3, none⟩) (.int .i64 B) (by simp only; omega)
  have HP := Lib.hid (And.intro P1 (And.intro P2 E3)); clear P1 P2 E3 O2' bo3 bx3 br3 bx1 br1 bo1 bx br bo bo0
  have HLT := Lib.hid (And.intro hlt2 hlt3); clear hlt2 hlt3
  go_wp2
  refine bodyPost_ret (v := .agg #[.int .i64 A, .slice a3 n c3, .slice a4 m c4, .int .i64 B]) (by simp [results, Try.results30, go_sem, l0, l1, l2, l3]) rfl ⟨_, rfl, ?_, HP.out.2.2⟩
  refine HT.out _ _ _ _ _ (HP.out.1.mono (by have := HSQ.out; omega) (by simp [World.setCell]; have := HS2.out; omega)) (HP.out.2.1.mono (by have := HSQ.out; have := HS2.out; omega) (by simp [World.setCell])) (fun ha hb => ?_)
  have h1 := HLT.out.1 ha
  have h2 := HLT.out.2 hb
  have := HS2.out
  omega
end Go.Proofs.Ytolmmhdeebgglaa
