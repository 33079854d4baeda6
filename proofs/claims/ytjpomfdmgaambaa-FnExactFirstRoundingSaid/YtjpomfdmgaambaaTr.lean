/- Contracts of the laws' helpers over Transport. -/
import Derived.Test.YtjpomfdmgaambaaSep
namespace Go.Proofs.Ytjpomfdmgaambaa
open Go.RowKit

structure Tr where
  rows : List Int
  cols : List Int
  lo : List (List Int)
  hi : List (List Int)
/-- the value v reads as T -/
def TrR (w : World) (v : Value) (T : Tr) : Prop := ∃ v0 v1 v2 v3, v = .agg #[v0, v1, v2, v3] ∧ Ints w v0 T.rows ∧ Ints w v1 T.cols ∧ Grid w v2 T.lo ∧ Grid w v3 T.hi
def TrWf (T : Tr) : Prop := Wf T.rows ∧ Wf T.cols ∧ WfG T.lo ∧ WfG T.hi
def TrSmall (T : Tr) : Prop := T.rows.length ≤ 1048576 ∧ T.cols.length ≤ 1048576 ∧ Small T.lo ∧ Small T.hi
theorem TrR.ext {w w' : World} {v : Value} {T : Tr} (h : TrR w v T) (u : Ext w w') : TrR w' v T := by
  obtain ⟨v0, v1, v2, v3, rfl, h0, h1, h2, h3⟩ := h
  exact ⟨_, _, _, _, rfl, h0.ext u, h1.ext u, h2.ext u, h3.ext u⟩
theorem TrR.form {w : World} {v : Value} {T : Tr} (h : TrR w v T) : ∃ a0 c0 a1 c1 a2 c2 a3 c3, v = .agg #[.slice a0 T.rows.length c0, .slice a1 T.cols.length c1, .slice a2 T.lo.length c2, .slice a3 T.hi.length c3] ∧ T.rows.length ≤ 9223372036854775807 ∧ T.cols.length ≤ 9223372036854775807 ∧ T.lo.length ≤ 9223372036854775807 ∧ T.hi.length ≤ 9223372036854775807 := by
  obtain ⟨v0, v1, v2, v3, rfl, h0, h1, h2, h3⟩ := h
  obtain ⟨a0, c0, rfl, p0, q0, _⟩ := h0
  obtain ⟨a1, c1, rfl, p1, q1, _⟩ := h1
  obtain ⟨a2, c2, rfl, p2, q2, _⟩ := h2
  obtain ⟨a3, c3, rfl, p3, q3, _⟩ := h3
  exact ⟨a0, c0, a1, c1, a2, c2, a3, c3, rfl, by omega, by omega, by omega, by omega⟩
theorem TrR.f0 {w : World} {T : Tr} {v0 v1 v2 v3 : Value} (h : TrR w (.agg #[v0, v1, v2, v3]) T) : Ints w v0 T.rows := by
  obtain ⟨x0, x1, x2, x3, e, h0, h1, h2, h3⟩ := h
  simp only [Value.agg.injEq, Array.mk.injEq, List.cons.injEq, and_true] at e
  obtain ⟨rfl, rfl, rfl, rfl⟩ := e
  exact h0
theorem TrR.f1 {w : World} {T : Tr} {v0 v1 v2 v3 : Value} (h : TrR w (.agg #[v0, v1, v2, v3]) T) : Ints w v1 T.cols := by
  obtain ⟨x0, x1, x2, x3, e, h0, h1, h2, h3⟩ := h
  simp only [Value.agg.injEq, Array.mk.injEq, List.cons.injEq, and_true] at e
  obtain ⟨rfl, rfl, rfl, rfl⟩ := e
  exact h1
theorem TrR.f2 {w : World} {T : Tr} {v0 v1 v2 v3 : Value} (h : TrR w (.agg #[v0, v1, v2, v3]) T) : Grid w v2 T.lo := by
  obtain ⟨x0, x1, x2, x3, e, h0, h1, h2, h3⟩ := h
  simp only [Value.agg.injEq, Array.mk.injEq, List.cons.injEq, and_true] at e
  obtain ⟨rfl, rfl, rfl, rfl⟩ := e
  exact h2
theorem TrR.f3 {w : World} {T : Tr} {v0 v1 v2 v3 : Value} (h : TrR w (.agg #[v0, v1, v2, v3]) T) : Grid w v3 T.hi := by
  obtain ⟨x0, x1, x2, x3, e, h0, h1, h2, h3⟩ := h
  simp only [Value.agg.injEq, Array.mk.injEq, List.cons.injEq, and_true] at e
  obtain ⟨rfl, rfl, rfl, rfl⟩ := e
  exact h3
/-- the value v reads as T, each field in blocks of its own, which are apart from the other fields' -/
def TrO (lo hi : Nat) (w : World) (v : Value) (T : Tr) : Prop := ∃ (v0 v1 v2 v3 : Value) (r2 r3 : List Value), v = .agg #[v0, v1, v2, v3] ∧ Own lo hi w v0 T.rows ∧ Own lo hi w v1 T.cols ∧ OwnG lo hi w v2 r2 T.lo ∧ OwnG lo hi w v3 r3 T.hi ∧ Apart (IB v0 T.rows) (IB v1 T.cols) ∧ Apart (IB v0 T.rows) (GB v2 r2 T.lo) ∧ Apart (IB v0 T.rows) (GB v3 r3 T.hi) ∧ Apart (IB v1 T.cols) (GB v2 r2 T.lo) ∧ Apart (IB v1 T.cols) (GB v3 r3 T.hi) ∧ Apart (GB v2 r2 T.lo) (GB v3 r3 T.hi)
/-- the same, the fields in ranges that follow one another -/
def TrL (lo hi : Nat) (w : World) (v : Value) (T : Tr) : Prop := ∃ (v0 v1 v2 v3 : Value) (r2 r3 : List Value) (m0 m1 m2 m3 m4 : Nat), v = .agg #[v0, v1, v2, v3] ∧ lo ≤ m0 ∧ m0 ≤ m1 ∧ m1 ≤ m2 ∧ m2 ≤ m3 ∧ m3 ≤ m4 ∧ m4 ≤ hi ∧ Own m0 m1 w v0 T.rows ∧ Own m1 m2 w v1 T.cols ∧ OwnG m2 m3 w v2 r2 T.lo ∧ OwnG m3 m4 w v3 r3 T.hi
/-- the value v reads as T, each field in blocks numbered from lo on and below hi -/
def TrN (lo hi : Nat) (w : World) (v : Value) (T : Tr) : Prop := ∃ (v0 v1 v2 v3 : Value) (r2 r3 : List Value), v = .agg #[v0, v1, v2, v3] ∧ Own lo hi w v0 T.rows ∧ Own lo hi w v1 T.cols ∧ OwnG lo hi w v2 r2 T.lo ∧ OwnG lo hi w v3 r3 T.hi
theorem TrL.o {lo hi : Nat} {w : World} {v : Value} {T : Tr} (h : TrL lo hi w v T) : TrO lo hi w v T := by
  obtain ⟨v0, v1, v2, v3, r2, r3, m0, m1, m2, m3, m4, rfl, l0, l1, l2, l3, l4, l9, o0, o1, o2, o3⟩ := h
  exact ⟨v0, v1, v2, v3, r2, r3, rfl, o0.mono (by omega) (by omega), o1.mono (by omega) (by omega), o2.mono (by omega) (by omega), o3.mono (by omega) (by omega), fun b h1 h2 => by have := o0.inside h1; have := o1.inside h2; omega, fun b h1 h2 => by have := o0.inside h1; have := o2.inside h2; omega, fun b h1 h2 => by have := o0.inside h1; have := o3.inside h2; omega, fun b h1 h2 => by have := o1.inside h1; have := o2.inside h2; omega, fun b h1 h2 => by have := o1.inside h1; have := o3.inside h2; omega, fun b h1 h2 => by have := o2.inside h1; have := o3.inside h2; omega⟩
theorem TrO.read {lo hi : Nat} {w : World} {v : Value} {T : Tr} (h : TrO lo hi w v T) : TrR w v T := by
  obtain ⟨v0, v1, v2, v3, r2, r3, rfl, o0, o1, o2, o3, d0_1, d0_2, d0_3, d1_2, d1_3, d2_3⟩ := h
  exact ⟨v0, v1, v2, v3, rfl, o0.ints, o1.ints, o2.grid, o3.grid⟩
theorem TrO.ext {lo hi : Nat} {w w' : World} {v : Value} {T : Tr} (h : TrO lo hi w v T) (u : Ext w w') : TrO lo hi w' v T := by
  obtain ⟨v0, v1, v2, v3, r2, r3, rfl, o0, o1, o2, o3, d0_1, d0_2, d0_3, d1_2, d1_3, d2_3⟩ := h
  exact ⟨v0, v1, v2, v3, r2, r3, rfl, o0.ext u, o1.ext u, o2.ext u, o3.ext u, d0_1, d0_2, d0_3, d1_2, d1_3, d2_3⟩
theorem TrO.away {S : Nat → Prop} {lo hi : Nat} {w w' : World} {v : Value} {T : Tr} (h : TrO lo hi w v T) (u : Upd S w w') (hs : ∀ b, S b → b < lo ∨ hi ≤ b) : TrO lo hi w' v T := by
  obtain ⟨v0, v1, v2, v3, r2, r3, rfl, o0, o1, o2, o3, d0_1, d0_2, d0_3, d1_2, d1_3, d2_3⟩ := h
  exact ⟨v0, v1, v2, v3, r2, r3, rfl, o0.away u hs, o1.away u hs, o2.away u hs, o3.away u hs, d0_1, d0_2, d0_3, d1_2, d1_3, d2_3⟩
theorem TrO.mono {lo hi lo' hi' : Nat} {w : World} {v : Value} {T : Tr} (h : TrO lo hi w v T) (h1 : lo' ≤ lo) (h2 : hi ≤ hi') : TrO lo' hi' w v T := by
  obtain ⟨v0, v1, v2, v3, r2, r3, rfl, o0, o1, o2, o3, d0_1, d0_2, d0_3, d1_2, d1_3, d2_3⟩ := h
  exact ⟨v0, v1, v2, v3, r2, r3, rfl, o0.mono h1 h2, o1.mono h1 h2, o2.mono h1 h2, o3.mono h1 h2, d0_1, d0_2, d0_3, d1_2, d1_3, d2_3⟩
theorem TrN.read {lo hi : Nat} {w : World} {v : Value} {T : Tr} (h : TrN lo hi w v T) : TrR w v T := by
  obtain ⟨v0, v1, v2, v3, r2, r3, rfl, o0, o1, o2, o3⟩ := h
  exact ⟨v0, v1, v2, v3, rfl, o0.ints, o1.ints, o2.grid, o3.grid⟩
theorem TrN.ext {lo hi : Nat} {w w' : World} {v : Value} {T : Tr} (h : TrN lo hi w v T) (u : Ext w w') : TrN lo hi w' v T := by
  obtain ⟨v0, v1, v2, v3, r2, r3, rfl, o0, o1, o2, o3⟩ := h
  exact ⟨v0, v1, v2, v3, r2, r3, rfl, o0.ext u, o1.ext u, o2.ext u, o3.ext u⟩
theorem TrN.away {S : Nat → Prop} {lo hi : Nat} {w w' : World} {v : Value} {T : Tr} (h : TrN lo hi w v T) (u : Upd S w w') (hs : ∀ b, S b → b < lo ∨ hi ≤ b) : TrN lo hi w' v T := by
  obtain ⟨v0, v1, v2, v3, r2, r3, rfl, o0, o1, o2, o3⟩ := h
  exact ⟨v0, v1, v2, v3, r2, r3, rfl, o0.away u hs, o1.away u hs, o2.away u hs, o3.away u hs⟩
theorem TrN.mono {lo hi lo' hi' : Nat} {w : World} {v : Value} {T : Tr} (h : TrN lo hi w v T) (h1 : lo' ≤ lo) (h2 : hi ≤ hi') : TrN lo' hi' w v T := by
  obtain ⟨v0, v1, v2, v3, r2, r3, rfl, o0, o1, o2, o3⟩ := h
  exact ⟨v0, v1, v2, v3, r2, r3, rfl, o0.mono h1 h2, o1.mono h1 h2, o2.mono h1 h2, o3.mono h1 h2⟩

set_option maxHeartbeats 1600000 in
theorem szTransport_c (v : Value) (T : Tr) (left : Int) (w : World) (h : TrR w v T) (h0 : 0 ≤ left ∧ left ≤ 1048576) :
    Calls Try.prog 7 #[v, .int .i64 left] w fun e w' => ∃ r, e = .returned (.int .i64 r) ∧ (r < 0 ∨ (0 ≤ r ∧ r ≤ left ∧ TrSmall T)) ∧ Ext w w' := by
  have H := Lib.hid h
  obtain ⟨a0, c0, a1, c1, a2, c2, a3, c3, rfl, n0, n1, n2, n3⟩ := h.form
  clear h
  have u0 := (Ext.refl w).alloc (.cells #[.slice a0 T.rows.length c0, .slice a1 T.cols.length c1, .slice a2 T.lo.length c2, .slice a3 T.hi.length c3] 25)
  have b0 := Box.new w 25 #[.slice a0 T.rows.length c0, .slice a1 T.cols.length c1, .slice a2 T.lo.length c2, .slice a3 T.hi.length c3] rfl
  have c0_0 := b0.cell 0 (by simp)
  have c0_1 := b0.cell 1 (by simp)
  have c0_2 := b0.cell 2 (by simp)
  have c0_3 := b0.cell 3 (by simp)
  have z0 := szI_cases left T.rows.length
  obtain ⟨t0, ht0⟩ : ∃ t, szI left T.rows.length = t := ⟨_, rfl⟩
  rw [ht0] at z0
  have HT0 := Lib.hid ht0; clear ht0
  by_cases hz0 : t0 < 0
  · go_enter Try.func7, Try.ntmps7
    go_wp2_with fail
    refine (szIntS_c _ T.rows.length _ left _ n0 (by omega)).mono ?_
    rw [HT0.out]
    rintro e w' ⟨rfl, rfl⟩
    go_wp2
    go_ret
    exact ⟨_, rfl, .inl (by omega), u0⟩
  have g0 : T.rows.length ≤ 1048576 ∧ 0 ≤ t0 ∧ t0 ≤ 1048576 ∧ t0 ≤ left := by omega
  clear z0
  have z1 := szI_cases t0 T.cols.length
  obtain ⟨t1, ht1⟩ : ∃ t, szI t0 T.cols.length = t := ⟨_, rfl⟩
  rw [ht1] at z1
  have HT1 := Lib.hid ht1; clear ht1
  by_cases hz1 : t1 < 0
  · go_enter Try.func7, Try.ntmps7
    go_wp2_with fail
    refine (szIntS_c _ T.rows.length _ left _ n0 (by omega)).mono ?_
    rw [HT0.out]
    rintro e w' ⟨rfl, rfl⟩
    go_wp2_with fail
    refine (szIntS_c _ T.cols.length _ t0 _ n1 (by omega)).mono ?_
    rw [HT1.out]
    rintro e w' ⟨rfl, rfl⟩
    go_wp2
    go_ret
    exact ⟨_, rfl, .inl (by omega), u0⟩
  have g1 : T.cols.length ≤ 1048576 ∧ 0 ≤ t1 ∧ t1 ≤ 1048576 ∧ t1 ≤ left := by omega
  clear z1
  obtain ⟨t2, ht2⟩ : ∃ t, szG t1 T.lo = t := ⟨_, rfl⟩
  have y2 : 0 ≤ t2 → Small T.lo := fun hh => Small.of_szG (left := t1) (by omega) (by rw [ht2]; exact hh)
  have z2 : 0 ≤ t2 → t2 ≤ t1 := fun hh => by have := szG_range (left := t1) (xss := T.lo) (by rw [ht2]; exact hh); rw [ht2] at this; exact this
  have Y2 := Lib.hid y2; clear y2
  have Z2 := Lib.hid z2; clear z2
  have HT2 := Lib.hid ht2; clear ht2
  by_cases hz2 : t2 < 0
  · go_enter Try.func7, Try.ntmps7
    go_wp2_with fail
    refine (szIntS_c _ T.rows.length _ left _ n0 (by omega)).mono ?_
    rw [HT0.out]
    rintro e w' ⟨rfl, rfl⟩
    go_wp2_with fail
    refine (szIntS_c _ T.cols.length _ t0 _ n1 (by omega)).mono ?_
    rw [HT1.out]
    rintro e w' ⟨rfl, rfl⟩
    go_wp2_with fail
    refine (szIntSS_c _ T.lo t1 _ (H.out.f2.ext u0) (by omega)).mono ?_
    rw [HT2.out]
    rintro e w' ⟨rfl, rfl⟩
    go_wp2
    go_ret
    exact ⟨_, rfl, .inl (by omega), u0⟩
  have g2 : 0 ≤ t2 ∧ t2 ≤ 1048576 ∧ t2 ≤ left := by have := Z2.out (by omega); omega
  obtain ⟨t3, ht3⟩ : ∃ t, szG t2 T.hi = t := ⟨_, rfl⟩
  have y3 : 0 ≤ t3 → Small T.hi := fun hh => Small.of_szG (left := t2) (by omega) (by rw [ht3]; exact hh)
  have z3 : 0 ≤ t3 → t3 ≤ t2 := fun hh => by have := szG_range (left := t2) (xss := T.hi) (by rw [ht3]; exact hh); rw [ht3] at this; exact this
  have Y3 := Lib.hid y3; clear y3
  have Z3 := Lib.hid z3; clear z3
  have HT3 := Lib.hid ht3; clear ht3
  by_cases hz3 : t3 < 0
  · go_enter Try.func7, Try.ntmps7
    go_wp2_with fail
    refine (szIntS_c _ T.rows.length _ left _ n0 (by omega)).mono ?_
    rw [HT0.out]
    rintro e w' ⟨rfl, rfl⟩
    go_wp2_with fail
    refine (szIntS_c _ T.cols.length _ t0 _ n1 (by omega)).mono ?_
    rw [HT1.out]
    rintro e w' ⟨rfl, rfl⟩
    go_wp2_with fail
    refine (szIntSS_c _ T.lo t1 _ (H.out.f2.ext u0) (by omega)).mono ?_
    rw [HT2.out]
    rintro e w' ⟨rfl, rfl⟩
    go_wp2_with fail
    refine (szIntSS_c _ T.hi t2 _ (H.out.f3.ext u0) (by omega)).mono ?_
    rw [HT3.out]
    rintro e w' ⟨rfl, rfl⟩
    go_wp2
    go_ret
    exact ⟨_, rfl, .inl (by omega), u0⟩
  have g3 : 0 ≤ t3 ∧ t3 ≤ 1048576 ∧ t3 ≤ left := by have := Z3.out (by omega); omega
  go_enter Try.func7, Try.ntmps7
  go_wp2_with fail
  refine (szIntS_c _ T.rows.length _ left _ n0 (by omega)).mono ?_
  rw [HT0.out]
  rintro e w' ⟨rfl, rfl⟩
  go_wp2_with fail
  refine (szIntS_c _ T.cols.length _ t0 _ n1 (by omega)).mono ?_
  rw [HT1.out]
  rintro e w' ⟨rfl, rfl⟩
  go_wp2_with fail
  refine (szIntSS_c _ T.lo t1 _ (H.out.f2.ext u0) (by omega)).mono ?_
  rw [HT2.out]
  rintro e w' ⟨rfl, rfl⟩
  go_wp2_with fail
  refine (szIntSS_c _ T.hi t2 _ (H.out.f3.ext u0) (by omega)).mono ?_
  rw [HT3.out]
  rintro e w' ⟨rfl, rfl⟩
  go_wp2
  go_ret
  exact ⟨_, rfl, .inr ⟨by omega, by omega, g0.1, g1.1, Y2.out (by omega), Y3.out (by omega)⟩, u0⟩
set_option maxHeartbeats 3200000 in
theorem toTransport_c (v : Value) (T : Tr) (w : World) (h : TrR w v T) (s : TrSmall T) :
    Calls Try.prog 10 #[v] w fun e w' => ∃ v', e = .returned v' ∧ TrO w.heap.size w'.heap.size w' v' T ∧ Ext w w' := by
  have H := Lib.hid h
  obtain ⟨a0, c0, a1, c1, a2, c2, a3, c3, rfl, _, _, _, _⟩ := h.form
  clear h
  have HS := Lib.hid s; clear s
  have v0 := (((Ext.refl w).alloc (.cells #[.slice a0 T.rows.length c0, .slice a1 T.cols.length c1, .slice a2 T.lo.length c2, .slice a3 T.hi.length c3] 25)).alloc (.cells #[.slice none 0 0, .slice none 0 0, .slice none 0 0, .slice none 0 0] 30)).alloc (.cells #[.slice none 0 0, .slice none 0 0, .slice none 0 0, .slice none 0 0] 30)
  have ba0 := ((Box.new w 25 #[.slice a0 T.rows.length c0, .slice a1 T.cols.length c1, .slice a2 T.lo.length c2, .slice a3 T.hi.length c3] rfl).alloc (.cells #[.slice none 0 0, .slice none 0 0, .slice none 0 0, .slice none 0 0] 30)).alloc (.cells #[.slice none 0 0, .slice none 0 0, .slice none 0 0, .slice none 0 0] 30)
  have br0 := (Box.new (w.alloc (.cells #[.slice a0 T.rows.length c0, .slice a1 T.cols.length c1, .slice a2 T.lo.length c2, .slice a3 T.hi.length c3] 25)) 30 #[.slice none 0 0, .slice none 0 0, .slice none 0 0, .slice none 0 0] (b := w.heap.size + 1) (by simp)).alloc (.cells #[.slice none 0 0, .slice none 0 0, .slice none 0 0, .slice none 0 0] 30)
  have bo0 := Box.new ((w.alloc (.cells #[.slice a0 T.rows.length c0, .slice a1 T.cols.length c1, .slice a2 T.lo.length c2, .slice a3 T.hi.length c3] 25)).alloc (.cells #[.slice none 0 0, .slice none 0 0, .slice none 0 0, .slice none 0 0] 30)) 30 #[.slice none 0 0, .slice none 0 0, .slice none 0 0, .slice none 0 0] (b := w.heap.size + 2) (by simp)
  have ca0_0 := ba0.cell 0 (by simp)
  have ca0_1 := ba0.cell 1 (by simp)
  have ca0_2 := ba0.cell 2 (by simp)
  have ca0_3 := ba0.cell 3 (by simp)
  have co0 := bo0.cell 0 (by simp)
  have fo0 := bo0.free 0
  go_enter Try.func10, Try.ntmps10
  have sz0 : (((w.alloc (.cells #[.slice a0 T.rows.length c0, .slice a1 T.cols.length c1, .slice a2 T.lo.length c2, .slice a3 T.hi.length c3] 25)).alloc (.cells #[.slice none 0 0, .slice none 0 0, .slice none 0 0, .slice none 0 0] 30)).alloc (.cells #[.slice none 0 0, .slice none 0 0, .slice none 0 0, .slice none 0 0] 30)).heap.size = w.heap.size + 3 := by simp
  have SZ0 := Lib.hid sz0; clear sz0
  go_wp2_with fail
  refine (toIntS_c _ T.rows _ (H.out.f0.ext v0) HS.out.1).mono ?_
  rintro e w1 ⟨x1, rfl, o1, u1⟩
  have O0_1 := Lib.hid o1
  obtain ⟨a1_, cp1, rfl, _, _, qq1⟩ := o1
  clear qq1
  have SZ1 : Hid ((((w.alloc (.cells #[.slice a0 T.rows.length c0, .slice a1 T.cols.length c1, .slice a2 T.lo.length c2, .slice a3 T.hi.length c3] 25)).alloc (.cells #[.slice none 0 0, .slice none 0 0, .slice none 0 0, .slice none 0 0] 30)).alloc (.cells #[.slice none 0 0, .slice none 0 0, .slice none 0 0, .slice none 0 0] 30)).heap.size ≤ w1.heap.size) := Lib.hid u1.size
  have SS1 : Hid ((w1.setCell ⟨w.heap.size + 2, 0, none⟩ (.slice a1_ T.rows.length cp1)).heap.size = w1.heap.size) := Lib.hid (by simp [World.setCell])
  have ba1 : Box (w1.setCell ⟨w.heap.size + 2, 0, none⟩ (.slice a1_ T.rows.length cp1)) w.heap.size 25 #[.slice a0 T.rows.length c0, .slice a1 T.cols.length c1, .slice a2 T.lo.length c2, .slice a3 T.hi.length c3] := (ba0.ext u1).setOther (by simp) _
  have br1 : Box (w1.setCell ⟨w.heap.size + 2, 0, none⟩ (.slice a1_ T.rows.length cp1)) (w.heap.size + 1) 30 #[.slice none 0 0, .slice none 0 0, .slice none 0 0, .slice none 0 0] := (br0.ext u1).setOther (by simp) _
  have bp1 := bo0.ext u1
  have cp1_ := bp1.cell 0 (by simp)
  have fp1_ := bp1.free 0
  have bo1 : Box (w1.setCell ⟨w.heap.size + 2, 0, none⟩ (.slice a1_ T.rows.length cp1)) (w.heap.size + 2) 30 #[.slice a1_ T.rows.length cp1, .slice none 0 0, .slice none 0 0, .slice none 0 0] := bp1.set 0 _
  have v1 : Ext w (w1.setCell ⟨w.heap.size + 2, 0, none⟩ (.slice a1_ T.rows.length cp1)) := (v0.trans u1).setCell _ (by simp)
  have O0_1s := Lib.hid (O0_1.out.put_away ⟨w.heap.size + 2, 0, none⟩ (.slice a1_ T.rows.length cp1) (.inl (by simp only; have := SZ0.out; have := SZ1.out; have := SS1.out; omega)))
  clear O0_1
  have O0_1 := O0_1s; clear O0_1s
  have ca1_0 := ba1.cell 0 (by simp)
  have ca1_1 := ba1.cell 1 (by simp)
  have ca1_2 := ba1.cell 2 (by simp)
  have ca1_3 := ba1.cell 3 (by simp)
  have co1 := bo1.cell 1 (by simp)
  have fo1 := bo1.free 1
  go_wp2_with fail
  refine (toIntS_c _ T.cols _ (H.out.f1.ext v1) HS.out.2.1).mono ?_
  rintro e w2 ⟨x2, rfl, o2, u2⟩
  have O1_2 := Lib.hid o2
  obtain ⟨a2_, cp2, rfl, _, _, qq2⟩ := o2
  clear qq2
  have SZ2 : Hid ((w1.setCell ⟨w.heap.size + 2, 0, none⟩ (.slice a1_ T.rows.length cp1)).heap.size ≤ w2.heap.size) := Lib.hid u2.size
  have SS2 : Hid ((w2.setCell ⟨w.heap.size + 2, 1, none⟩ (.slice a2_ T.cols.length cp2)).heap.size = w2.heap.size) := Lib.hid (by simp [World.setCell])
  have ba2 : Box (w2.setCell ⟨w.heap.size + 2, 1, none⟩ (.slice a2_ T.cols.length cp2)) w.heap.size 25 #[.slice a0 T.rows.length c0, .slice a1 T.cols.length c1, .slice a2 T.lo.length c2, .slice a3 T.hi.length c3] := (ba1.ext u2).setOther (by simp) _
  have br2 : Box (w2.setCell ⟨w.heap.size + 2, 1, none⟩ (.slice a2_ T.cols.length cp2)) (w.heap.size + 1) 30 #[.slice none 0 0, .slice none 0 0, .slice none 0 0, .slice none 0 0] := (br1.ext u2).setOther (by simp) _
  have bp2 := bo1.ext u2
  have cp2_ := bp2.cell 1 (by simp)
  have fp2_ := bp2.free 1
  have bo2 : Box (w2.setCell ⟨w.heap.size + 2, 1, none⟩ (.slice a2_ T.cols.length cp2)) (w.heap.size + 2) 30 #[.slice a1_ T.rows.length cp1, .slice a2_ T.cols.length cp2, .slice none 0 0, .slice none 0 0] := bp2.set 1 _
  have v2 : Ext w (w2.setCell ⟨w.heap.size + 2, 1, none⟩ (.slice a2_ T.cols.length cp2)) := (v1.trans u2).setCell _ (by simp)
  have O0_2 := Lib.hid ((O0_1.out.ext u2).put_away ⟨w.heap.size + 2, 1, none⟩ (.slice a2_ T.cols.length cp2) (.inl (by simp only; have := SZ0.out; have := SZ1.out; have := SS1.out; have := SZ2.out; have := SS2.out; omega)))
  have O1_2s := Lib.hid (O1_2.out.put_away ⟨w.heap.size + 2, 1, none⟩ (.slice a2_ T.cols.length cp2) (.inl (by simp only; have := SZ0.out; have := SZ1.out; have := SS1.out; have := SZ2.out; have := SS2.out; omega)))
  clear O1_2
  have O1_2 := O1_2s; clear O1_2s
  have ca2_0 := ba2.cell 0 (by simp)
  have ca2_1 := ba2.cell 1 (by simp)
  have ca2_2 := ba2.cell 2 (by simp)
  have ca2_3 := ba2.cell 3 (by simp)
  have co2 := bo2.cell 2 (by simp)
  have fo2 := bo2.free 2
  go_wp2_with fail
  refine (toIntSS_c _ T.lo _ (H.out.f2.ext v2) HS.out.2.2.1.len HS.out.2.2.1.row).mono ?_
  rintro e w3 ⟨x3, rr2, rfl, o3, u3⟩
  have O2_3 := Lib.hid o3
  obtain ⟨a3_, cp3, rfl, _, _, qq3⟩ := o3
  clear qq3
  have SZ3 : Hid ((w2.setCell ⟨w.heap.size + 2, 1, none⟩ (.slice a2_ T.cols.length cp2)).heap.size ≤ w3.heap.size) := Lib.hid u3.size
  have SS3 : Hid ((w3.setCell ⟨w.heap.size + 2, 2, none⟩ (.slice a3_ T.lo.length cp3)).heap.size = w3.heap.size) := Lib.hid (by simp [World.setCell])
  have ba3 : Box (w3.setCell ⟨w.heap.size + 2, 2, none⟩ (.slice a3_ T.lo.length cp3)) w.heap.size 25 #[.slice a0 T.rows.length c0, .slice a1 T.cols.length c1, .slice a2 T.lo.length c2, .slice a3 T.hi.length c3] := (ba2.ext u3).setOther (by simp) _
  have br3 : Box (w3.setCell ⟨w.heap.size + 2, 2, none⟩ (.slice a3_ T.lo.length cp3)) (w.heap.size + 1) 30 #[.slice none 0 0, .slice none 0 0, .slice none 0 0, .slice none 0 0] := (br2.ext u3).setOther (by simp) _
  have bp3 := bo2.ext u3
  have cp3_ := bp3.cell 2 (by simp)
  have fp3_ := bp3.free 2
  have bo3 : Box (w3.setCell ⟨w.heap.size + 2, 2, none⟩ (.slice a3_ T.lo.length cp3)) (w.heap.size + 2) 30 #[.slice a1_ T.rows.length cp1, .slice a2_ T.cols.length cp2, .slice a3_ T.lo.length cp3, .slice none 0 0] := bp3.set 2 _
  have v3 : Ext w (w3.setCell ⟨w.heap.size + 2, 2, none⟩ (.slice a3_ T.lo.length cp3)) := (v2.trans u3).setCell _ (by simp)
  have O0_3 := Lib.hid ((O0_2.out.ext u3).put_away ⟨w.heap.size + 2, 2, none⟩ (.slice a3_ T.lo.length cp3) (.inl (by simp only; have := SZ0.out; have := SZ1.out; have := SS1.out; have := SZ2.out; have := SS2.out; have := SZ3.out; have := SS3.out; omega)))
  have O1_3 := Lib.hid ((O1_2.out.ext u3).put_away ⟨w.heap.size + 2, 2, none⟩ (.slice a3_ T.lo.length cp3) (.inl (by simp only; have := SZ0.out; have := SZ1.out; have := SS1.out; have := SZ2.out; have := SS2.out; have := SZ3.out; have := SS3.out; omega)))
  have O2_3s := Lib.hid (O2_3.out.put_away ⟨w.heap.size + 2, 2, none⟩ (.slice a3_ T.lo.length cp3) (.inl (by simp only; have := SZ0.out; have := SZ1.out; have := SS1.out; have := SZ2.out; have := SS2.out; have := SZ3.out; have := SS3.out; omega)))
  clear O2_3
  have O2_3 := O2_3s; clear O2_3s
  have ca3_0 := ba3.cell 0 (by simp)
  have ca3_1 := ba3.cell 1 (by simp)
  have ca3_2 := ba3.cell 2 (by simp)
  have ca3_3 := ba3.cell 3 (by simp)
  have co3 := bo3.cell 3 (by simp)
  have fo3 := bo3.free 3
  go_wp2_with fail
  refine (toIntSS_c _ T.hi _ (H.out.f3.ext v3) HS.out.2.2.2.len HS.out.2.2.2.row).mono ?_
  rintro e w4 ⟨x4, rr3, rfl, o4, u4⟩
  have O3_4 := Lib.hid o4
  obtain ⟨a4_, cp4, rfl, _, _, qq4⟩ := o4
  clear qq4
  have SZ4 : Hid ((w3.setCell ⟨w.heap.size + 2, 2, none⟩ (.slice a3_ T.lo.length cp3)).heap.size ≤ w4.heap.size) := Lib.hid u4.size
  have SS4 : Hid ((w4.setCell ⟨w.heap.size + 2, 3, none⟩ (.slice a4_ T.hi.length cp4)).heap.size = w4.heap.size) := Lib.hid (by simp [World.setCell])
  have ba4 : Box (w4.setCell ⟨w.heap.size + 2, 3, none⟩ (.slice a4_ T.hi.length cp4)) w.heap.size 25 #[.slice a0 T.rows.length c0, .slice a1 T.cols.length c1, .slice a2 T.lo.length c2, .slice a3 T.hi.length c3] := (ba3.ext u4).setOther (by simp) _
  have br4 : Box (w4.setCell ⟨w.heap.size + 2, 3, none⟩ (.slice a4_ T.hi.length cp4)) (w.heap.size + 1) 30 #[.slice none 0 0, .slice none 0 0, .slice none 0 0, .slice none 0 0] := (br3.ext u4).setOther (by simp) _
  have bp4 := bo3.ext u4
  have cp4_ := bp4.cell 3 (by simp)
  have fp4_ := bp4.free 3
  have bo4 : Box (w4.setCell ⟨w.heap.size + 2, 3, none⟩ (.slice a4_ T.hi.length cp4)) (w.heap.size + 2) 30 #[.slice a1_ T.rows.length cp1, .slice a2_ T.cols.length cp2, .slice a3_ T.lo.length cp3, .slice a4_ T.hi.length cp4] := bp4.set 3 _
  have v4 : Ext w (w4.setCell ⟨w.heap.size + 2, 3, none⟩ (.slice a4_ T.hi.length cp4)) := (v3.trans u4).setCell _ (by simp)
  have O0_4 := Lib.hid ((O0_3.out.ext u4).put_away ⟨w.heap.size + 2, 3, none⟩ (.slice a4_ T.hi.length cp4) (.inl (by simp only; have := SZ0.out; have := SZ1.out; have := SS1.out; have := SZ2.out; have := SS2.out; have := SZ3.out; have := SS3.out; have := SZ4.out; have := SS4.out; omega)))
  have O1_4 := Lib.hid ((O1_3.out.ext u4).put_away ⟨w.heap.size + 2, 3, none⟩ (.slice a4_ T.hi.length cp4) (.inl (by simp only; have := SZ0.out; have := SZ1.out; have := SS1.out; have := SZ2.out; have := SS2.out; have := SZ3.out; have := SS3.out; have := SZ4.out; have := SS4.out; omega)))
  have O2_4 := Lib.hid ((O2_3.out.ext u4).put_away ⟨w.heap.size + 2, 3, none⟩ (.slice a4_ T.hi.length cp4) (.inl (by simp only; have := SZ0.out; have := SZ1.out; have := SS1.out; have := SZ2.out; have := SS2.out; have := SZ3.out; have := SS3.out; have := SZ4.out; have := SS4.out; omega)))
  have O3_4s := Lib.hid (O3_4.out.put_away ⟨w.heap.size + 2, 3, none⟩ (.slice a4_ T.hi.length cp4) (.inl (by simp only; have := SZ0.out; have := SZ1.out; have := SS1.out; have := SZ2.out; have := SS2.out; have := SZ3.out; have := SS3.out; have := SZ4.out; have := SS4.out; omega)))
  clear O3_4
  have O3_4 := O3_4s; clear O3_4s
  have cf0 := bo4.cell 0 (by simp)
  have ff0 := br4.cell 0 (by simp)
  have fg0 := br4.free 0
  have cf1 := bo4.cell 1 (by simp)
  have ff1 := br4.cell 1 (by simp)
  have fg1 := br4.free 1
  have cf2 := bo4.cell 2 (by simp)
  have ff2 := br4.cell 2 (by simp)
  have fg2 := br4.free 2
  have cf3 := bo4.cell 3 (by simp)
  have ff3 := br4.cell 3 (by simp)
  have fg3 := br4.free 3
  go_wp2
  refine bodyPost_ret (v := .agg #[.slice a1_ T.rows.length cp1, .slice a2_ T.cols.length cp2, .slice a3_ T.lo.length cp3, .slice a4_ T.hi.length cp4]) (by simp [results, Try.results10, go_sem, ff0, ff1, ff2, ff3]) rfl ?_
  refine ⟨_, rfl, TrL.o ⟨_, _, _, _, _, _, w.heap.size + 3, w1.heap.size, w2.heap.size, w3.heap.size, w4.heap.size, rfl, by omega, (by have := SZ0.out; have := SZ1.out; have := SS1.out; have := SZ2.out; have := SS2.out; have := SZ3.out; have := SS3.out; have := SZ4.out; have := SS4.out; omega), (by have := SZ0.out; have := SZ1.out; have := SS1.out; have := SZ2.out; have := SS2.out; have := SZ3.out; have := SS3.out; have := SZ4.out; have := SS4.out; omega), (by have := SZ0.out; have := SZ1.out; have := SS1.out; have := SZ2.out; have := SS2.out; have := SZ3.out; have := SS3.out; have := SZ4.out; have := SS4.out; omega), (by have := SZ0.out; have := SZ1.out; have := SS1.out; have := SZ2.out; have := SS2.out; have := SZ3.out; have := SS3.out; have := SZ4.out; have := SS4.out; omega), ?_, (((((O0_4.out.put_away ⟨w.heap.size + 1, 0, none⟩ (.slice a1_ T.rows.length cp1) (.inl (by simp only; have := SZ0.out; have := SZ1.out; have := SS1.out; have := SZ2.out; have := SS2.out; have := SZ3.out; have := SS3.out; have := SZ4.out; have := SS4.out; omega))).put_away ⟨w.heap.size + 1, 1, none⟩ (.slice a2_ T.cols.length cp2) (.inl (by simp only; have := SZ0.out; have := SZ1.out; have := SS1.out; have := SZ2.out; have := SS2.out; have := SZ3.out; have := SS3.out; have := SZ4.out; have := SS4.out; omega))).put_away ⟨w.heap.size + 1, 2, none⟩ (.slice a3_ T.lo.length cp3) (.inl (by simp only; have := SZ0.out; have := SZ1.out; have := SS1.out; have := SZ2.out; have := SS2.out; have := SZ3.out; have := SS3.out; have := SZ4.out; have := SS4.out; omega))).put_away ⟨w.heap.size + 1, 3, none⟩ (.slice a4_ T.hi.length cp4) (.inl (by simp only; have := SZ0.out; have := SZ1.out; have := SS1.out; have := SZ2.out; have := SS2.out; have := SZ3.out; have := SS3.out; have := SZ4.out; have := SS4.out; omega)))).mono (by have := SZ0.out; have := SZ1.out; have := SS1.out; have := SZ2.out; have := SS2.out; have := SZ3.out; have := SS3.out; have := SZ4.out; have := SS4.out; omega) (Nat.le_refl _), (((((O1_4.out.put_away ⟨w.heap.size + 1, 0, none⟩ (.slice a1_ T.rows.length cp1) (.inl (by simp only; have := SZ0.out; have := SZ1.out; have := SS1.out; have := SZ2.out; have := SS2.out; have := SZ3.out; have := SS3.out; have := SZ4.out; have := SS4.out; omega))).put_away ⟨w.heap.size + 1, 1, none⟩ (.slice a2_ T.cols.length cp2) (.inl (by simp only; have := SZ0.out; have := SZ1.out; have := SS1.out; have := SZ2.out; have := SS2.out; have := SZ3.out; have := SS3.out; have := SZ4.out; have := SS4.out; omega))).put_away ⟨w.heap.size + 1, 2, none⟩ (.slice a3_ T.lo.length cp3) (.inl (by simp only; have := SZ0.out; have := SZ1.out; have := SS1.out; have := SZ2.out; have := SS2.out; have := SZ3.out; have := SS3.out; have := SZ4.out; have := SS4.out; omega))).put_away ⟨w.heap.size + 1, 3, none⟩ (.slice a4_ T.hi.length cp4) (.inl (by simp only; have := SZ0.out; have := SZ1.out; have := SS1.out; have := SZ2.out; have := SS2.out; have := SZ3.out; have := SS3.out; have := SZ4.out; have := SS4.out; omega)))).mono (by have := SZ0.out; have := SZ1.out; have := SS1.out; have := SZ2.out; have := SS2.out; have := SZ3.out; have := SS3.out; have := SZ4.out; have := SS4.out; omega) (Nat.le_refl _), (((((O2_4.out.put_away ⟨w.heap.size + 1, 0, none⟩ (.slice a1_ T.rows.length cp1) (.inl (by simp only; have := SZ0.out; have := SZ1.out; have := SS1.out; have := SZ2.out; have := SS2.out; have := SZ3.out; have := SS3.out; have := SZ4.out; have := SS4.out; omega))).put_away ⟨w.heap.size + 1, 1, none⟩ (.slice a2_ T.cols.length cp2) (.inl (by simp only; have := SZ0.out; have := SZ1.out; have := SS1.out; have := SZ2.out; have := SS2.out; have := SZ3.out; have := SS3.out; have := SZ4.out; have := SS4.out; omega))).put_away ⟨w.heap.size + 1, 2, none⟩ (.slice a3_ T.lo.length cp3) (.inl (by simp only; have := SZ0.out; have := SZ1.out; have := SS1.out; have := SZ2.out; have := SS2.out; have := SZ3.out; have := SS3.out; have := SZ4.out; have := SS4.out; omega))).put_away ⟨w.heap.size + 1, 3, none⟩ (.slice a4_ T.hi.length cp4) (.inl (by simp only; have := SZ0.out; have := SZ1.out; have := SS1.out; have := SZ2.out; have := SS2.out; have := SZ3.out; have := SS3.out; have := SZ4.out; have := SS4.out; omega)))).mono (by have := SZ0.out; have := SZ1.out; have := SS1.out; have := SZ2.out; have := SS2.out; have := SZ3.out; have := SS3.out; have := SZ4.out; have := SS4.out; omega) (Nat.le_refl _), (((((O3_4.out.put_away ⟨w.heap.size + 1, 0, none⟩ (.slice a1_ T.rows.length cp1) (.inl (by simp only; have := SZ0.out; have := SZ1.out; have := SS1.out; have := SZ2.out; have := SS2.out; have := SZ3.out; have := SS3.out; have := SZ4.out; have := SS4.out; omega))).put_away ⟨w.heap.size + 1, 1, none⟩ (.slice a2_ T.cols.length cp2) (.inl (by simp only; have := SZ0.out; have := SZ1.out; have := SS1.out; have := SZ2.out; have := SS2.out; have := SZ3.out; have := SS3.out; have := SZ4.out; have := SS4.out; omega))).put_away ⟨w.heap.size + 1, 2, none⟩ (.slice a3_ T.lo.length cp3) (.inl (by simp only; have := SZ0.out; have := SZ1.out; have := SS1.out; have := SZ2.out; have := SS2.out; have := SZ3.out; have := SS3.out; have := SZ4.out; have := SS4.out; omega))).put_away ⟨w.heap.size + 1, 3, none⟩ (.slice a4_ T.hi.length cp4) (.inl (by simp only; have := SZ0.out; have := SZ1.out; have := SS1.out; have := SZ2.out; have := SS2.out; have := SZ3.out; have := SS3.out; have := SZ4.out; have := SS4.out; omega)))).mono (by have := SZ0.out; have := SZ1.out; have := SS1.out; have := SZ2.out; have := SS2.out; have := SZ3.out; have := SS3.out; have := SZ4.out; have := SS4.out; omega) (Nat.le_refl _)⟩, ((((v4.setCell _ (by simp)).setCell _ (by simp)).setCell _ (by simp)).setCell _ (by simp))⟩
  have := SS4.out
  simp [World.setCell]
set_option maxHeartbeats 1600000 in
theorem eqTransport_t (v1 v2 : Value) (T : Tr) (w : World) (h1 : TrR w v1 T) (h2 : TrR w v2 T) :
    Calls Try.prog 14 #[v1, v2] w fun e w' => e = .returned (.bool true) ∧ Ext w w' := by
  have H1 := Lib.hid h1
  have H2 := Lib.hid h2
  obtain ⟨a0, c0, a1, c1, a2, c2, a3, c3, rfl, _, _, _, _⟩ := h1.form
  obtain ⟨d0, e0, d1, e1, d2, e2, d3, e3, rfl, _, _, _, _⟩ := h2.form
  clear h1 h2
  have v0 := ((Ext.refl w).alloc (.cells #[.slice a0 T.rows.length c0, .slice a1 T.cols.length c1, .slice a2 T.lo.length c2, .slice a3 T.hi.length c3] 30)).alloc (.cells #[.slice d0 T.rows.length e0, .slice d1 T.cols.length e1, .slice d2 T.lo.length e2, .slice d3 T.hi.length e3] 30)
  have b1_0 := (Box.new w 30 #[.slice a0 T.rows.length c0, .slice a1 T.cols.length c1, .slice a2 T.lo.length c2, .slice a3 T.hi.length c3] rfl).alloc (.cells #[.slice d0 T.rows.length e0, .slice d1 T.cols.length e1, .slice d2 T.lo.length e2, .slice d3 T.hi.length e3] 30)
  have b2_0 := Box.new (w.alloc (.cells #[.slice a0 T.rows.length c0, .slice a1 T.cols.length c1, .slice a2 T.lo.length c2, .slice a3 T.hi.length c3] 30)) 30 #[.slice d0 T.rows.length e0, .slice d1 T.cols.length e1, .slice d2 T.lo.length e2, .slice d3 T.hi.length e3] (b := w.heap.size + 1) (by simp)
  go_enter Try.func14, Try.ntmps14
  have k1_0_0 := b1_0.cell 0 (by simp)
  have k2_0_0 := b2_0.cell 0 (by simp)
  have k1_0_1 := b1_0.cell 1 (by simp)
  have k2_0_1 := b2_0.cell 1 (by simp)
  have k1_0_2 := b1_0.cell 2 (by simp)
  have k2_0_2 := b2_0.cell 2 (by simp)
  have k1_0_3 := b1_0.cell 3 (by simp)
  have k2_0_3 := b2_0.cell 3 (by simp)
  go_wp2_with fail
  refine (eqIntS_b true _ _ T.rows T.rows _ (by simp) (H1.out.f0.ext v0) (H2.out.f0.ext v0)).mono ?_
  rintro e w1 ⟨rfl, d1_⟩
  have u1 := Drew.ext d1_
  have v1 := v0.trans u1
  have b1_1 := b1_0.ext u1
  have b2_1 := b2_0.ext u1
  have k1_1_0 := b1_1.cell 0 (by simp)
  have k2_1_0 := b2_1.cell 0 (by simp)
  have k1_1_1 := b1_1.cell 1 (by simp)
  have k2_1_1 := b2_1.cell 1 (by simp)
  have k1_1_2 := b1_1.cell 2 (by simp)
  have k2_1_2 := b2_1.cell 2 (by simp)
  have k1_1_3 := b1_1.cell 3 (by simp)
  have k2_1_3 := b2_1.cell 3 (by simp)
  go_wp2_with fail
  refine (eqIntS_b true _ _ T.cols T.cols _ (by simp) (H1.out.f1.ext v1) (H2.out.f1.ext v1)).mono ?_
  rintro e w2 ⟨rfl, d2_⟩
  have u2 := Drew.ext d2_
  have v2 := v1.trans u2
  have b1_2 := b1_1.ext u2
  have b2_2 := b2_1.ext u2
  have k1_2_0 := b1_2.cell 0 (by simp)
  have k2_2_0 := b2_2.cell 0 (by simp)
  have k1_2_1 := b1_2.cell 1 (by simp)
  have k2_2_1 := b2_2.cell 1 (by simp)
  have k1_2_2 := b1_2.cell 2 (by simp)
  have k2_2_2 := b2_2.cell 2 (by simp)
  have k1_2_3 := b1_2.cell 3 (by simp)
  have k2_2_3 := b2_2.cell 3 (by simp)
  go_wp2_with fail
  refine (eqIntSS_b true _ _ T.lo T.lo _ (by simp) (H1.out.f2.ext v2) (H2.out.f2.ext v2)).mono ?_
  rintro e w3 ⟨rfl, d3_⟩
  have u3 := Drew.ext d3_
  have v3 := v2.trans u3
  have b1_3 := b1_2.ext u3
  have b2_3 := b2_2.ext u3
  have k1_3_0 := b1_3.cell 0 (by simp)
  have k2_3_0 := b2_3.cell 0 (by simp)
  have k1_3_1 := b1_3.cell 1 (by simp)
  have k2_3_1 := b2_3.cell 1 (by simp)
  have k1_3_2 := b1_3.cell 2 (by simp)
  have k2_3_2 := b2_3.cell 2 (by simp)
  have k1_3_3 := b1_3.cell 3 (by simp)
  have k2_3_3 := b2_3.cell 3 (by simp)
  go_wp2_with fail
  refine (eqIntSS_b true _ _ T.hi T.hi _ (by simp) (H1.out.f3.ext v3) (H2.out.f3.ext v3)).mono ?_
  rintro e w4 ⟨rfl, d4_⟩
  have u4 := Drew.ext d4_
  have v4 := v3.trans u4
  have b1_4 := b1_3.ext u4
  have b2_4 := b2_3.ext u4
  go_wp2
  go_ret
  exact ⟨rfl, v4⟩
def TrSize (T : Tr) : Int := (T.rows.length : Int) + (T.cols.length : Int) + (psum T.lo T.lo.length : Int) + (psum T.hi T.hi.length : Int)
theorem TrSmall.size {T : Tr} (h : TrSmall T) : 0 ≤ TrSize T ∧ TrSize T ≤ 4194304 := by
  obtain ⟨h0, h1, h2, h3⟩ := h
  have := h2.psum T.lo.length (Nat.le_refl _)
  have := h3.psum T.hi.length (Nat.le_refl _)
  unfold TrSize; omega
/-- T', of the shape of T, is marked from k0 on -/
def TrMarked (k0 : Int) (T T' : Tr) : Prop := T'.rows = seqI (k0) T.rows.length ∧ T'.cols = seqI (k0 + (T.rows.length : Int)) T.cols.length ∧ MarkedG (k0 + (T.rows.length : Int) + (T.cols.length : Int)) T.lo T'.lo ∧ MarkedG (k0 + (T.rows.length : Int) + (T.cols.length : Int) + (psum T.lo T.lo.length : Int)) T.hi T'.hi
set_option maxHeartbeats 1600000 in
theorem markTransport_c (lo hi : Nat) (v : Value) (T : Tr) (k0 : Int) (w : World) (h : TrO lo hi w v T) (s : TrSmall T) (hk0 : 0 ≤ k0 ∧ k0 ≤ 1099500000000) :
    Calls Try.prog 15 #[v, .int .i64 k0] w fun e w' => e = .returned (.int .i64 (k0 + TrSize T)) ∧ (∃ T', TrO lo hi w' v T' ∧ TrMarked k0 T T') ∧ Upd (fun b => lo ≤ b ∧ b < hi) w w' := by
  have HS := Lib.hid s; clear s
  obtain ⟨a0, c0, a1, c1, a2, c2, a3, c3, rfl, _⟩ := h.read.form
  obtain ⟨v0, v1, v2, v3, r2, r3, hv, o0, o1, o2, o3, d0_1, d0_2, d0_3, d1_2, d1_3, d2_3⟩ := h
  simp only [Value.agg.injEq, Array.mk.injEq, List.cons.injEq, and_true] at hv
  obtain ⟨rfl, rfl, rfl, rfl⟩ := hv
  have u0 := (Ext.refl w).alloc (.cells #[.slice a0 T.rows.length c0, .slice a1 T.cols.length c1, .slice a2 T.lo.length c2, .slice a3 T.hi.length c3] 30)
  have b0 := Box.new w 30 #[.slice a0 T.rows.length c0, .slice a1 T.cols.length c1, .slice a2 T.lo.length c2, .slice a3 T.hi.length c3] rfl
  have IN0 := Lib.hid (show ∀ b, IB (.slice a0 T.rows.length c0) T.rows b → lo ≤ b ∧ b < hi ∧ b < w.heap.size from fun b hb => o0.inside hb)
  have IN1 := Lib.hid (show ∀ b, IB (.slice a1 T.cols.length c1) T.cols b → lo ≤ b ∧ b < hi ∧ b < w.heap.size from fun b hb => o1.inside hb)
  have IN2 := Lib.hid (show ∀ b, GB (.slice a2 T.lo.length c2) r2 T.lo b → lo ≤ b ∧ b < hi ∧ b < w.heap.size from fun b hb => o2.inside hb)
  have IN3 := Lib.hid (show ∀ b, GB (.slice a3 T.hi.length c3) r3 T.hi b → lo ≤ b ∧ b < hi ∧ b < w.heap.size from fun b hb => o3.inside hb)
  have D0_1 := Lib.hid d0_1; clear d0_1
  have D0_2 := Lib.hid d0_2; clear d0_2
  have D0_3 := Lib.hid d0_3; clear d0_3
  have D1_2 := Lib.hid d1_2; clear d1_2
  have D1_3 := Lib.hid d1_3; clear d1_3
  have D2_3 := Lib.hid d2_3; clear d2_3
  have O0_0 := Lib.hid (o0.ext u0); clear o0
  have O1_0 := Lib.hid (o1.ext u0); clear o1
  have O2_0 := Lib.hid (o2.ext u0); clear o2
  have O3_0 := Lib.hid (o3.ext u0); clear o3
  obtain ⟨t0, ht0⟩ : ∃ t, k0 + (T.rows.length : Int) = t := ⟨_, rfl⟩
  have tb0 : 0 ≤ t0 ∧ t0 ≤ 1099501048576 := by have := HS.out.1; omega
  have HT0 := Lib.hid ht0; clear ht0
  obtain ⟨t1, ht1⟩ : ∃ t, t0 + (T.cols.length : Int) = t := ⟨_, rfl⟩
  have tb1 : 0 ≤ t1 ∧ t1 ≤ 1099502097152 := by have := HS.out.2.1; omega
  have HT1 := Lib.hid ht1; clear ht1
  obtain ⟨t2, ht2⟩ : ∃ t, t1 + (psum T.lo T.lo.length : Int) = t := ⟨_, rfl⟩
  have tb2 : 0 ≤ t2 ∧ t2 ≤ 1099503145728 := by have := HS.out.2.2.1.psum _ (Nat.le_refl _); omega
  have HT2 := Lib.hid ht2; clear ht2
  obtain ⟨t3, ht3⟩ : ∃ t, t2 + (psum T.hi T.hi.length : Int) = t := ⟨_, rfl⟩
  have tb3 : 0 ≤ t3 ∧ t3 ≤ 1099504194304 := by have := HS.out.2.2.2.psum _ (Nat.le_refl _); omega
  have HT3 := Lib.hid ht3; clear ht3
  have k0_0 := b0.cell 0 (by simp)
  have k0_1 := b0.cell 1 (by simp)
  have k0_2 := b0.cell 2 (by simp)
  have k0_3 := b0.cell 3 (by simp)
  go_enter Try.func15, Try.ntmps15
  go_wp2_with fail
  refine (markIntS_c _ _ _ T.rows k0 _ O0_0.out HS.out.1 (by omega)).mono ?_
  rw [HT0.out]
  rintro e w1 ⟨rfl, om0, uu1⟩
  have U1 : Hid (Upd (fun b => IB (.slice a0 T.rows.length c0) T.rows b ∧ b ≠ w.heap.size) _ w1) := Lib.hid (uu1.mono (fun b _ hb => ⟨hb, by have := IN0.out b hb; omega⟩))
  have OM0_1 := Lib.hid om0; clear om0 uu1
  have b1 := b0.upd U1.out (fun hb => hb.2 rfl)
  have k1_0 := b1.cell 0 (by simp)
  have k1_1 := b1.cell 1 (by simp)
  have k1_2 := b1.cell 2 (by simp)
  have k1_3 := b1.cell 3 (by simp)
  have O1_1 := Lib.hid (O1_0.out.keepB U1.out (fun b hb hs => D0_1.out b hs.1 hb))
  have O2_1 := Lib.hid (O2_0.out.keepB U1.out (fun b hb hs => D0_2.out b hs.1 hb))
  have O3_1 := Lib.hid (O3_0.out.keepB U1.out (fun b hb hs => D0_3.out b hs.1 hb))
  go_wp2_with fail
  refine (markIntS_c _ _ _ T.cols t0 _ O1_1.out HS.out.2.1 (by omega)).mono ?_
  rw [HT1.out]
  rintro e w2 ⟨rfl, om1, uu2⟩
  have U2 : Hid (Upd (fun b => IB (.slice a1 T.cols.length c1) T.cols b ∧ b ≠ w.heap.size) _ w2) := Lib.hid (uu2.mono (fun b _ hb => ⟨hb, by have := IN1.out b hb; omega⟩))
  have OM1_2 := Lib.hid om1; clear om1 uu2
  have b2 := b1.upd U2.out (fun hb => hb.2 rfl)
  have k2_0 := b2.cell 0 (by simp)
  have k2_1 := b2.cell 1 (by simp)
  have k2_2 := b2.cell 2 (by simp)
  have k2_3 := b2.cell 3 (by simp)
  have OM0_2 := Lib.hid (OM0_1.out.keepB U2.out (fun b hb hs => D0_1.out b (IB.of_len (seqI_length _ _) hb) hs.1))
  have O2_2 := Lib.hid (O2_1.out.keepB U2.out (fun b hb hs => D1_2.out b hs.1 hb))
  have O3_2 := Lib.hid (O3_1.out.keepB U2.out (fun b hb hs => D1_3.out b hs.1 hb))
  go_wp2_with fail
  refine (markIntSS_c _ _ _ _ T.lo t1 _ O2_2.out HS.out.2.2.1.row HS.out.2.2.1.psum (by omega)).mono ?_
  rw [HT2.out]
  rintro e w3 ⟨rfl, ⟨ys2, om2, mk2⟩, uu3⟩
  have MK2 := Lib.hid mk2; clear mk2
  have U3 : Hid (Upd (fun b => rowBlks r2 T.lo b ∧ b ≠ w.heap.size) _ w3) := Lib.hid (uu3.mono (fun b _ hb => ⟨hb, by have := IN2.out b (.inr hb); omega⟩))
  have OM2_3 := Lib.hid om2; clear om2 uu3
  have b3 := b2.upd U3.out (fun hb => hb.2 rfl)
  have k3_0 := b3.cell 0 (by simp)
  have k3_1 := b3.cell 1 (by simp)
  have k3_2 := b3.cell 2 (by simp)
  have k3_3 := b3.cell 3 (by simp)
  have OM0_3 := Lib.hid (OM0_2.out.keepB U3.out (fun b hb hs => D0_2.out b (IB.of_len (seqI_length _ _) hb) (.inr hs.1)))
  have OM1_3 := Lib.hid (OM1_2.out.keepB U3.out (fun b hb hs => D1_2.out b (IB.of_len (seqI_length _ _) hb) (.inr hs.1)))
  have O3_3 := Lib.hid (O3_2.out.keepB U3.out (fun b hb hs => D2_3.out b (.inr hs.1) hb))
  go_wp2_with fail
  refine (markIntSS_c _ _ _ _ T.hi t2 _ O3_3.out HS.out.2.2.2.row HS.out.2.2.2.psum (by omega)).mono ?_
  rw [HT3.out]
  rintro e w4 ⟨rfl, ⟨ys3, om3, mk3⟩, uu4⟩
  have MK3 := Lib.hid mk3; clear mk3
  have U4 : Hid (Upd (fun b => rowBlks r3 T.hi b ∧ b ≠ w.heap.size) _ w4) := Lib.hid (uu4.mono (fun b _ hb => ⟨hb, by have := IN3.out b (.inr hb); omega⟩))
  have OM3_4 := Lib.hid om3; clear om3 uu4
  have b4 := b3.upd U4.out (fun hb => hb.2 rfl)
  have k4_0 := b4.cell 0 (by simp)
  have k4_1 := b4.cell 1 (by simp)
  have k4_2 := b4.cell 2 (by simp)
  have k4_3 := b4.cell 3 (by simp)
  have OM0_4 := Lib.hid (OM0_3.out.keepB U4.out (fun b hb hs => D0_3.out b (IB.of_len (seqI_length _ _) hb) (.inr hs.1)))
  have OM1_4 := Lib.hid (OM1_3.out.keepB U4.out (fun b hb hs => D1_3.out b (IB.of_len (seqI_length _ _) hb) (.inr hs.1)))
  have OM2_4 := Lib.hid (OM2_3.out.keepB U4.out (fun b hb hs => D2_3.out b (GB.of_marked MK2.out hb) (.inr hs.1)))
  go_wp2
  go_ret
  refine ⟨ret_int (by unfold TrSize; have := HT0.out; have := HT1.out; have := HT2.out; have := HT3.out;  omega), ⟨⟨seqI k0 T.rows.length, seqI t0 T.cols.length, ys2, ys3⟩, ⟨.slice a0 T.rows.length c0, .slice a1 T.cols.length c1, .slice a2 T.lo.length c2, .slice a3 T.hi.length c3, r2, r3, rfl, by first | exact OM0_4.out | (simpa using OM0_4.out), by first | exact OM1_4.out | (simpa using OM1_4.out), by first | exact OM2_4.out | (simpa using OM2_4.out), by first | exact OM3_4.out | (simpa using OM3_4.out), fun b h1 h2 => D0_1.out b (IB.of_len (seqI_length _ _) h1) (IB.of_len (seqI_length _ _) h2), fun b h1 h2 => D0_2.out b (IB.of_len (seqI_length _ _) h1) (GB.of_marked MK2.out h2), fun b h1 h2 => D0_3.out b (IB.of_len (seqI_length _ _) h1) (GB.of_marked MK3.out h2), fun b h1 h2 => D1_2.out b (IB.of_len (seqI_length _ _) h1) (GB.of_marked MK2.out h2), fun b h1 h2 => D1_3.out b (IB.of_len (seqI_length _ _) h1) (GB.of_marked MK3.out h2), fun b h1 h2 => D2_3.out b (GB.of_marked MK2.out h1) (GB.of_marked MK3.out h2)⟩, ?_⟩, ?_⟩
  · refine ⟨rfl, by rw [HT0.out], by rw [HT0.out, HT1.out]; exact MK2.out, by rw [HT0.out, HT1.out, HT2.out]; exact MK3.out⟩
  · exact u0.then_upd ((((U1.out.mono (fun b _ hb => by have := IN0.out b hb.1; omega)).trans (U2.out.mono (fun b _ hb => by have := IN1.out b hb.1; omega))).trans (U3.out.mono (fun b _ hb => by have := IN2.out b (.inr hb.1); omega))).trans (U4.out.mono (fun b _ hb => by have := IN3.out b (.inr hb.1); omega)))
set_option maxHeartbeats 1600000 in
theorem heldTransport_c (v : Value) (T T' : Tr) (k0 : Int) (w : World) (h : TrR w v T') (hm : TrMarked k0 T T') (s : TrSmall T) (hk0 : 0 ≤ k0 ∧ k0 ≤ 1099500000000) :
    Calls Try.prog 20 #[v, .int .i64 k0] w fun e w' => e = .returned (.int .i64 (k0 + TrSize T)) ∧ Ext w w' := by
  have HS := Lib.hid s; clear s
  have H := Lib.hid h
  have HM := Lib.hid hm; clear hm
  obtain ⟨a0, c0, a1, c1, a2, c2, a3, c3, rfl, _⟩ := h.form
  clear h
  have u0 := (Ext.refl w).alloc (.cells #[.slice a0 T'.rows.length c0, .slice a1 T'.cols.length c1, .slice a2 T'.lo.length c2, .slice a3 T'.hi.length c3] 30)
  have b0 := Box.new w 30 #[.slice a0 T'.rows.length c0, .slice a1 T'.cols.length c1, .slice a2 T'.lo.length c2, .slice a3 T'.hi.length c3] rfl
  obtain ⟨t0, ht0⟩ : ∃ t, k0 + (T.rows.length : Int) = t := ⟨_, rfl⟩
  have tb0 : 0 ≤ t0 ∧ t0 ≤ 1099501048576 := by have := HS.out.1; omega
  have tn0 : ¬ (t0 < 0) := by omega
  have HT0 := Lib.hid ht0; clear ht0
  obtain ⟨t1, ht1⟩ : ∃ t, t0 + (T.cols.length : Int) = t := ⟨_, rfl⟩
  have tb1 : 0 ≤ t1 ∧ t1 ≤ 1099502097152 := by have := HS.out.2.1; omega
  have tn1 : ¬ (t1 < 0) := by omega
  have HT1 := Lib.hid ht1; clear ht1
  obtain ⟨t2, ht2⟩ : ∃ t, t1 + (psum T.lo T.lo.length : Int) = t := ⟨_, rfl⟩
  have tb2 : 0 ≤ t2 ∧ t2 ≤ 1099503145728 := by have := HS.out.2.2.1.psum _ (Nat.le_refl _); omega
  have tn2 : ¬ (t2 < 0) := by omega
  have HT2 := Lib.hid ht2; clear ht2
  obtain ⟨t3, ht3⟩ : ∃ t, t2 + (psum T.hi T.hi.length : Int) = t := ⟨_, rfl⟩
  have tb3 : 0 ≤ t3 ∧ t3 ≤ 1099504194304 := by have := HS.out.2.2.2.psum _ (Nat.le_refl _); omega
  have tn3 : ¬ (t3 < 0) := by omega
  have HT3 := Lib.hid ht3; clear ht3
  have k0_0 := b0.cell 0 (by simp)
  have k0_1 := b0.cell 1 (by simp)
  have k0_2 := b0.cell 2 (by simp)
  have k0_3 := b0.cell 3 (by simp)
  go_enter Try.func20, Try.ntmps20
  go_wp2_with fail
  refine (heldIntS_c _ T.rows.length k0 _ (by have := HM.out.1; have h2 := H.out.f0.ext u0; rw [← this]; exact h2) HS.out.1 (by omega)).mono ?_
  rw [HT0.out]
  rintro e w' ⟨rfl, rfl⟩
  go_wp2_with fail
  refine (heldIntS_c _ T.cols.length t0 _ (by have := HM.out.2.1; rw [HT0.out] at this; have h2 := H.out.f1.ext u0; rw [← this]; exact h2) HS.out.2.1 (by omega)).mono ?_
  rw [HT1.out]
  rintro e w' ⟨rfl, rfl⟩
  go_wp2_with fail
  refine (heldIntSS_c _ T.lo T'.lo t1 _ (H.out.f2.ext u0) (by have := HM.out.2.2.1; rw [HT0.out] at this; rw [HT1.out] at this; exact this) HS.out.2.2.1.row HS.out.2.2.1.psum (by omega)).mono ?_
  rw [HT2.out]
  rintro e w' ⟨rfl, rfl⟩
  go_wp2_with fail
  refine (heldIntSS_c _ T.hi T'.hi t2 _ (H.out.f3.ext u0) (by have := HM.out.2.2.2; rw [HT0.out] at this; rw [HT1.out] at this; rw [HT2.out] at this; exact this) HS.out.2.2.2.row HS.out.2.2.2.psum (by omega)).mono ?_
  rw [HT3.out]
  rintro e w' ⟨rfl, rfl⟩
  go_wp2
  go_ret
  exact ⟨ret_int (by unfold TrSize; have := HT0.out; have := HT1.out; have := HT2.out; have := HT3.out;  omega), u0⟩
end Go.Proofs.Ytjpomfdmgaambaa
