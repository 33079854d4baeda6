/- Contracts of the laws' helpers over Rounding. -/
import Derived.Test.YtmffhipfodlomaaSep
namespace Go.Proofs.Ytmffhipfodlomaa
open Go.RowKit

structure Rd where
  cells : List (List Int)
  rows : List Int
  cols : List Int
  total : Int
/-- the value v reads as T -/
def RdR (w : World) (v : Value) (T : Rd) : Prop := ∃ v0 v1 v2 v3, v = .agg #[v0, v1, v2, v3] ∧ Grid w v0 T.cells ∧ Ints w v1 T.rows ∧ Ints w v2 T.cols ∧ v3 = .int .i64 T.total
def RdWf (T : Rd) : Prop := WfG T.cells ∧ Wf T.rows ∧ Wf T.cols ∧ (-9223372036854775808 ≤ T.total ∧ T.total ≤ 9223372036854775807)
def RdSmall (T : Rd) : Prop := Small T.cells ∧ T.rows.length ≤ 1048576 ∧ T.cols.length ≤ 1048576
theorem RdR.ext {w w' : World} {v : Value} {T : Rd} (h : RdR w v T) (u : Ext w w') : RdR w' v T := by
  obtain ⟨v0, v1, v2, v3, rfl, h0, h1, h2, h3⟩ := h
  exact ⟨_, _, _, _, rfl, h0.ext u, h1.ext u, h2.ext u, h3⟩
theorem RdR.form {w : World} {v : Value} {T : Rd} (h : RdR w v T) : ∃ a0 c0 a1 c1 a2 c2, v = .agg #[.slice a0 T.cells.length c0, .slice a1 T.rows.length c1, .slice a2 T.cols.length c2, .int .i64 T.total] ∧ T.cells.length ≤ 9223372036854775807 ∧ T.rows.length ≤ 9223372036854775807 ∧ T.cols.length ≤ 9223372036854775807 := by
  obtain ⟨v0, v1, v2, v3, rfl, h0, h1, h2, h3⟩ := h
  obtain ⟨a0, c0, rfl, p0, q0, _⟩ := h0
  obtain ⟨a1, c1, rfl, p1, q1, _⟩ := h1
  obtain ⟨a2, c2, rfl, p2, q2, _⟩ := h2
  subst h3
  exact ⟨a0, c0, a1, c1, a2, c2, rfl, by omega, by omega, by omega⟩
theorem RdR.f0 {w : World} {T : Rd} {v0 v1 v2 v3 : Value} (h : RdR w (.agg #[v0, v1, v2, v3]) T) : Grid w v0 T.cells := by
  obtain ⟨x0, x1, x2, x3, e, h0, h1, h2, h3⟩ := h
  simp only [Value.agg.injEq, Array.mk.injEq, List.cons.injEq, and_true] at e
  obtain ⟨rfl, rfl, rfl, rfl⟩ := e
  exact h0
theorem RdR.f1 {w : World} {T : Rd} {v0 v1 v2 v3 : Value} (h : RdR w (.agg #[v0, v1, v2, v3]) T) : Ints w v1 T.rows := by
  obtain ⟨x0, x1, x2, x3, e, h0, h1, h2, h3⟩ := h
  simp only [Value.agg.injEq, Array.mk.injEq, List.cons.injEq, and_true] at e
  obtain ⟨rfl, rfl, rfl, rfl⟩ := e
  exact h1
theorem RdR.f2 {w : World} {T : Rd} {v0 v1 v2 v3 : Value} (h : RdR w (.agg #[v0, v1, v2, v3]) T) : Ints w v2 T.cols := by
  obtain ⟨x0, x1, x2, x3, e, h0, h1, h2, h3⟩ := h
  simp only [Value.agg.injEq, Array.mk.injEq, List.cons.injEq, and_true] at e
  obtain ⟨rfl, rfl, rfl, rfl⟩ := e
  exact h2
/-- the value v reads as T, each field in blocks of its own, which are apart from the other fields' -/
def RdO (lo hi : Nat) (w : World) (v : Value) (T : Rd) : Prop := ∃ (v0 v1 v2 v3 : Value) (r0 : List Value), v = .agg #[v0, v1, v2, v3] ∧ OwnG lo hi w v0 r0 T.cells ∧ Own lo hi w v1 T.rows ∧ Own lo hi w v2 T.cols ∧ Apart (GB v0 r0 T.cells) (IB v1 T.rows) ∧ Apart (GB v0 r0 T.cells) (IB v2 T.cols) ∧ Apart (IB v1 T.rows) (IB v2 T.cols) ∧ v3 = .int .i64 T.total
/-- the same, the fields in ranges that follow one another -/
def RdL (lo hi : Nat) (w : World) (v : Value) (T : Rd) : Prop := ∃ (v0 v1 v2 v3 : Value) (r0 : List Value) (m0 m1 m2 m3 : Nat), v = .agg #[v0, v1, v2, v3] ∧ lo ≤ m0 ∧ m0 ≤ m1 ∧ m1 ≤ m2 ∧ m2 ≤ m3 ∧ m3 ≤ hi ∧ OwnG m0 m1 w v0 r0 T.cells ∧ Own m1 m2 w v1 T.rows ∧ Own m2 m3 w v2 T.cols ∧ v3 = .int .i64 T.total
/-- the value v reads as T, each field in blocks numbered from lo on and below hi -/
def RdN (lo hi : Nat) (w : World) (v : Value) (T : Rd) : Prop := ∃ (v0 v1 v2 v3 : Value) (r0 : List Value), v = .agg #[v0, v1, v2, v3] ∧ OwnG lo hi w v0 r0 T.cells ∧ Own lo hi w v1 T.rows ∧ Own lo hi w v2 T.cols ∧ v3 = .int .i64 T.total
theorem RdL.o {lo hi : Nat} {w : World} {v : Value} {T : Rd} (h : RdL lo hi w v T) : RdO lo hi w v T := by
  obtain ⟨v0, v1, v2, v3, r0, m0, m1, m2, m3, rfl, l0, l1, l2, l3, l9, o0, o1, o2, z3⟩ := h
  exact ⟨v0, v1, v2, v3, r0, rfl, o0.mono (by omega) (by omega), o1.mono (by omega) (by omega), o2.mono (by omega) (by omega), fun b h1 h2 => by have := o0.inside h1; have := o1.inside h2; omega, fun b h1 h2 => by have := o0.inside h1; have := o2.inside h2; omega, fun b h1 h2 => by have := o1.inside h1; have := o2.inside h2; omega, z3⟩
theorem RdO.read {lo hi : Nat} {w : World} {v : Value} {T : Rd} (h : RdO lo hi w v T) : RdR w v T := by
  obtain ⟨v0, v1, v2, v3, r0, rfl, o0, o1, o2, d0_1, d0_2, d1_2, z3⟩ := h
  exact ⟨v0, v1, v2, v3, rfl, o0.grid, o1.ints, o2.ints, z3⟩
theorem RdO.ext {lo hi : Nat} {w w' : World} {v : Value} {T : Rd} (h : RdO lo hi w v T) (u : Ext w w') : RdO lo hi w' v T := by
  obtain ⟨v0, v1, v2, v3, r0, rfl, o0, o1, o2, d0_1, d0_2, d1_2, z3⟩ := h
  exact ⟨v0, v1, v2, v3, r0, rfl, o0.ext u, o1.ext u, o2.ext u, d0_1, d0_2, d1_2, z3⟩
theorem RdO.away {S : Nat → Prop} {lo hi : Nat} {w w' : World} {v : Value} {T : Rd} (h : RdO lo hi w v T) (u : Upd S w w') (hs : ∀ b, S b → b < lo ∨ hi ≤ b) : RdO lo hi w' v T := by
  obtain ⟨v0, v1, v2, v3, r0, rfl, o0, o1, o2, d0_1, d0_2, d1_2, z3⟩ := h
  exact ⟨v0, v1, v2, v3, r0, rfl, o0.away u hs, o1.away u hs, o2.away u hs, d0_1, d0_2, d1_2, z3⟩
theorem RdO.mono {lo hi lo' hi' : Nat} {w : World} {v : Value} {T : Rd} (h : RdO lo hi w v T) (h1 : lo' ≤ lo) (h2 : hi ≤ hi') : RdO lo' hi' w v T := by
  obtain ⟨v0, v1, v2, v3, r0, rfl, o0, o1, o2, d0_1, d0_2, d1_2, z3⟩ := h
  exact ⟨v0, v1, v2, v3, r0, rfl, o0.mono h1 h2, o1.mono h1 h2, o2.mono h1 h2, d0_1, d0_2, d1_2, z3⟩
theorem RdN.read {lo hi : Nat} {w : World} {v : Value} {T : Rd} (h : RdN lo hi w v T) : RdR w v T := by
  obtain ⟨v0, v1, v2, v3, r0, rfl, o0, o1, o2, z3⟩ := h
  exact ⟨v0, v1, v2, v3, rfl, o0.grid, o1.ints, o2.ints, z3⟩
theorem RdN.ext {lo hi : Nat} {w w' : World} {v : Value} {T : Rd} (h : RdN lo hi w v T) (u : Ext w w') : RdN lo hi w' v T := by
  obtain ⟨v0, v1, v2, v3, r0, rfl, o0, o1, o2, z3⟩ := h
  exact ⟨v0, v1, v2, v3, r0, rfl, o0.ext u, o1.ext u, o2.ext u, z3⟩
theorem RdN.away {S : Nat → Prop} {lo hi : Nat} {w w' : World} {v : Value} {T : Rd} (h : RdN lo hi w v T) (u : Upd S w w') (hs : ∀ b, S b → b < lo ∨ hi ≤ b) : RdN lo hi w' v T := by
  obtain ⟨v0, v1, v2, v3, r0, rfl, o0, o1, o2, z3⟩ := h
  exact ⟨v0, v1, v2, v3, r0, rfl, o0.away u hs, o1.away u hs, o2.away u hs, z3⟩
theorem RdN.mono {lo hi lo' hi' : Nat} {w : World} {v : Value} {T : Rd} (h : RdN lo hi w v T) (h1 : lo' ≤ lo) (h2 : hi ≤ hi') : RdN lo' hi' w v T := by
  obtain ⟨v0, v1, v2, v3, r0, rfl, o0, o1, o2, z3⟩ := h
  exact ⟨v0, v1, v2, v3, r0, rfl, o0.mono h1 h2, o1.mono h1 h2, o2.mono h1 h2, z3⟩

set_option maxHeartbeats 1600000 in
theorem szRounding_c (v : Value) (T : Rd) (left : Int) (w : World) (h : RdR w v T) (h0 : 0 ≤ left ∧ left ≤ 1048576) :
    Calls Try.prog 21 #[v, .int .i64 left] w fun e w' => ∃ r, e = .returned (.int .i64 r) ∧ (r < 0 ∨ (0 ≤ r ∧ r ≤ left ∧ RdSmall T)) ∧ Ext w w' := by
  have H := Lib.hid h
  obtain ⟨a0, c0, a1, c1, a2, c2, rfl, n0, n1, n2⟩ := h.form
  clear h
  have u0 := (Ext.refl w).alloc (.cells #[.slice a0 T.cells.length c0, .slice a1 T.rows.length c1, .slice a2 T.cols.length c2, .int .i64 T.total] 33)
  have b0 := Box.new w 33 #[.slice a0 T.cells.length c0, .slice a1 T.rows.length c1, .slice a2 T.cols.length c2, .int .i64 T.total] rfl
  have c0_0 := b0.cell 0 (by simp)
  have c0_1 := b0.cell 1 (by simp)
  have c0_2 := b0.cell 2 (by simp)
  have c0_3 := b0.cell 3 (by simp)
  obtain ⟨t0, ht0⟩ : ∃ t, szG left T.cells = t := ⟨_, rfl⟩
  have y0 : 0 ≤ t0 → Small T.cells := fun hh => Small.of_szG (left := left) (by omega) (by rw [ht0]; exact hh)
  have z0 : 0 ≤ t0 → t0 ≤ left := fun hh => by have := szG_range (left := left) (xss := T.cells) (by rw [ht0]; exact hh); rw [ht0] at this; exact this
  have Y0 := Lib.hid y0; clear y0
  have Z0 := Lib.hid z0; clear z0
  have HT0 := Lib.hid ht0; clear ht0
  by_cases hz0 : t0 < 0
  · go_enter Try.func21, Try.ntmps21
    go_wp2_with fail
    refine (szIntSS_c _ T.cells left _ (H.out.f0.ext u0) (by omega)).mono ?_
    rw [HT0.out]
    rintro e w' ⟨rfl, rfl⟩
    go_wp2
    go_ret
    exact ⟨_, rfl, .inl (by omega), u0⟩
  have g0 : 0 ≤ t0 ∧ t0 ≤ 1048576 ∧ t0 ≤ left := by have := Z0.out (by omega); omega
  have z1 := szI_cases t0 T.rows.length
  obtain ⟨t1, ht1⟩ : ∃ t, szI t0 T.rows.length = t := ⟨_, rfl⟩
  rw [ht1] at z1
  have HT1 := Lib.hid ht1; clear ht1
  by_cases hz1 : t1 < 0
  · go_enter Try.func21, Try.ntmps21
    go_wp2_with fail
    refine (szIntSS_c _ T.cells left _ (H.out.f0.ext u0) (by omega)).mono ?_
    rw [HT0.out]
    rintro e w' ⟨rfl, rfl⟩
    go_wp2_with fail
    refine (szIntS_c _ T.rows.length _ t0 _ n1 (by omega)).mono ?_
    rw [HT1.out]
    rintro e w' ⟨rfl, rfl⟩
    go_wp2
    go_ret
    exact ⟨_, rfl, .inl (by omega), u0⟩
  have g1 : T.rows.length ≤ 1048576 ∧ 0 ≤ t1 ∧ t1 ≤ 1048576 ∧ t1 ≤ left := by omega
  clear z1
  have z2 := szI_cases t1 T.cols.length
  obtain ⟨t2, ht2⟩ : ∃ t, szI t1 T.cols.length = t := ⟨_, rfl⟩
  rw [ht2] at z2
  have HT2 := Lib.hid ht2; clear ht2
  by_cases hz2 : t2 < 0
  · go_enter Try.func21, Try.ntmps21
    go_wp2_with fail
    refine (szIntSS_c _ T.cells left _ (H.out.f0.ext u0) (by omega)).mono ?_
    rw [HT0.out]
    rintro e w' ⟨rfl, rfl⟩
    go_wp2_with fail
    refine (szIntS_c _ T.rows.length _ t0 _ n1 (by omega)).mono ?_
    rw [HT1.out]
    rintro e w' ⟨rfl, rfl⟩
    go_wp2_with fail
    refine (szIntS_c _ T.cols.length _ t1 _ n2 (by omega)).mono ?_
    rw [HT2.out]
    rintro e w' ⟨rfl, rfl⟩
    go_wp2
    go_ret
    exact ⟨_, rfl, .inl (by omega), u0⟩
  have g2 : T.cols.length ≤ 1048576 ∧ 0 ≤ t2 ∧ t2 ≤ 1048576 ∧ t2 ≤ left := by omega
  clear z2
  go_enter Try.func21, Try.ntmps21
  go_wp2_with fail
  refine (szIntSS_c _ T.cells left _ (H.out.f0.ext u0) (by omega)).mono ?_
  rw [HT0.out]
  rintro e w' ⟨rfl, rfl⟩
  go_wp2_with fail
  refine (szIntS_c _ T.rows.length _ t0 _ n1 (by omega)).mono ?_
  rw [HT1.out]
  rintro e w' ⟨rfl, rfl⟩
  go_wp2_with fail
  refine (szIntS_c _ T.cols.length _ t1 _ n2 (by omega)).mono ?_
  rw [HT2.out]
  rintro e w' ⟨rfl, rfl⟩
  go_wp2
  go_ret
  exact ⟨_, rfl, .inr ⟨by omega, by omega, Y0.out (by omega), g1.1, g2.1⟩, u0⟩
set_option maxHeartbeats 3200000 in
theorem toRounding_c (v : Value) (T : Rd) (w : World) (h : RdR w v T) (s : RdSmall T) :
    Calls Try.prog 24 #[v] w fun e w' => ∃ v', e = .returned v' ∧ RdO w.heap.size w'.heap.size w' v' T ∧ Ext w w' := by
  have H := Lib.hid h
  obtain ⟨a0, c0, a1, c1, a2, c2, rfl, _, _, _⟩ := h.form
  clear h
  have HS := Lib.hid s; clear s
  have v0 := (((Ext.refl w).alloc (.cells #[.slice a0 T.cells.length c0, .slice a1 T.rows.length c1, .slice a2 T.cols.length c2, .int .i64 T.total] 33)).alloc (.cells #[.slice none 0 0, .slice none 0 0, .slice none 0 0, .int .i64 0] 39)).alloc (.cells #[.slice none 0 0, .slice none 0 0, .slice none 0 0, .int .i64 0] 39)
  have ba0 := ((Box.new w 33 #[.slice a0 T.cells.length c0, .slice a1 T.rows.length c1, .slice a2 T.cols.length c2, .int .i64 T.total] rfl).alloc (.cells #[.slice none 0 0, .slice none 0 0, .slice none 0 0, .int .i64 0] 39)).alloc (.cells #[.slice none 0 0, .slice none 0 0, .slice none 0 0, .int .i64 0] 39)
  have br0 := (Box.new (w.alloc (.cells #[.slice a0 T.cells.length c0, .slice a1 T.rows.length c1, .slice a2 T.cols.length c2, .int .i64 T.total] 33)) 39 #[.slice none 0 0, .slice none 0 0, .slice none 0 0, .int .i64 0] (b := w.heap.size + 1) (by simp)).alloc (.cells #[.slice none 0 0, .slice none 0 0, .slice none 0 0, .int .i64 0] 39)
  have bo0 := Box.new ((w.alloc (.cells #[.slice a0 T.cells.length c0, .slice a1 T.rows.length c1, .slice a2 T.cols.length c2, .int .i64 T.total] 33)).alloc (.cells #[.slice none 0 0, .slice none 0 0, .slice none 0 0, .int .i64 0] 39)) 39 #[.slice none 0 0, .slice none 0 0, .slice none 0 0, .int .i64 0] (b := w.heap.size + 2) (by simp)
  have ca0_0 := ba0.cell 0 (by simp)
  have ca0_1 := ba0.cell 1 (by simp)
  have ca0_2 := ba0.cell 2 (by simp)
  have ca0_3 := ba0.cell 3 (by simp)
  have co0 := bo0.cell 0 (by simp)
  have fo0 := bo0.free 0
  go_enter Try.func24, Try.ntmps24
  have sz0 : (((w.alloc (.cells #[.slice a0 T.cells.length c0, .slice a1 T.rows.length c1, .slice a2 T.cols.length c2, .int .i64 T.total] 33)).alloc (.cells #[.slice none 0 0, .slice none 0 0, .slice none 0 0, .int .i64 0] 39)).alloc (.cells #[.slice none 0 0, .slice none 0 0, .slice none 0 0, .int .i64 0] 39)).heap.size = w.heap.size + 3 := by simp
  have SZ0 := Lib.hid sz0; clear sz0
  go_wp2_with fail
  refine (toIntSS_c _ T.cells _ (H.out.f0.ext v0) HS.out.1.len HS.out.1.row).mono ?_
  rintro e w1 ⟨x1, rr0, rfl, o1, u1⟩
  have O0_1 := Lib.hid o1
  obtain ⟨a1_, cp1, rfl, _, _, qq1⟩ := o1
  clear qq1
  have SZ1 : Hid ((((w.alloc (.cells #[.slice a0 T.cells.length c0, .slice a1 T.rows.length c1, .slice a2 T.cols.length c2, .int .i64 T.total] 33)).alloc (.cells #[.slice none 0 0, .slice none 0 0, .slice none 0 0, .int .i64 0] 39)).alloc (.cells #[.slice none 0 0, .slice none 0 0, .slice none 0 0, .int .i64 0] 39)).heap.size ≤ w1.heap.size) := Lib.hid u1.size
  have SS1 : Hid ((w1.setCell ⟨w.heap.size + 2, 0, none⟩ (.slice a1_ T.cells.length cp1)).heap.size = w1.heap.size) := Lib.hid (by simp [World.setCell])
  have ba1 : Box (w1.setCell ⟨w.heap.size + 2, 0, none⟩ (.slice a1_ T.cells.length cp1)) w.heap.size 33 #[.slice a0 T.cells.length c0, .slice a1 T.rows.length c1, .slice a2 T.cols.length c2, .int .i64 T.total] := (ba0.ext u1).setOther (by simp) _
  have br1 : Box (w1.setCell ⟨w.heap.size + 2, 0, none⟩ (.slice a1_ T.cells.length cp1)) (w.heap.size + 1) 39 #[.slice none 0 0, .slice none 0 0, .slice none 0 0, .int .i64 0] := (br0.ext u1).setOther (by simp) _
  have bp1 := bo0.ext u1
  have cp1_ := bp1.cell 0 (by simp)
  have fp1_ := bp1.free 0
  have bo1 : Box (w1.setCell ⟨w.heap.size + 2, 0, none⟩ (.slice a1_ T.cells.length cp1)) (w.heap.size + 2) 39 #[.slice a1_ T.cells.length cp1, .slice none 0 0, .slice none 0 0, .int .i64 0] := bp1.set 0 _
  have v1 : Ext w (w1.setCell ⟨w.heap.size + 2, 0, none⟩ (.slice a1_ T.cells.length cp1)) := (v0.trans u1).setCell _ (by simp)
  have O0_1s := Lib.hid (O0_1.out.put_away ⟨w.heap.size + 2, 0, none⟩ (.slice a1_ T.cells.length cp1) (.inl (by simp only; have := SZ0.out; have := SZ1.out; have := SS1.out; omega)))
  clear O0_1
  have O0_1 := O0_1s; clear O0_1s
  have ca1_0 := ba1.cell 0 (by simp)
  have ca1_1 := ba1.cell 1 (by simp)
  have ca1_2 := ba1.cell 2 (by simp)
  have ca1_3 := ba1.cell 3 (by simp)
  have co1 := bo1.cell 1 (by simp)
  have fo1 := bo1.free 1
  go_wp2_with fail
  refine (toIntS_c _ T.rows _ (H.out.f1.ext v1) HS.out.2.1).mono ?_
  rintro e w2 ⟨x2, rfl, o2, u2⟩
  have O1_2 := Lib.hid o2
  obtain ⟨a2_, cp2, rfl, _, _, qq2⟩ := o2
  clear qq2
  have SZ2 : Hid ((w1.setCell ⟨w.heap.size + 2, 0, none⟩ (.slice a1_ T.cells.length cp1)).heap.size ≤ w2.heap.size) := Lib.hid u2.size
  have SS2 : Hid ((w2.setCell ⟨w.heap.size + 2, 1, none⟩ (.slice a2_ T.rows.length cp2)).heap.size = w2.heap.size) := Lib.hid (by simp [World.setCell])
  have ba2 : Box (w2.setCell ⟨w.heap.size + 2, 1, none⟩ (.slice a2_ T.rows.length cp2)) w.heap.size 33 #[.slice a0 T.cells.length c0, .slice a1 T.rows.length c1, .slice a2 T.cols.length c2, .int .i64 T.total] := (ba1.ext u2).setOther (by simp) _
  have br2 : Box (w2.setCell ⟨w.heap.size + 2, 1, none⟩ (.slice a2_ T.rows.length cp2)) (w.heap.size + 1) 39 #[.slice none 0 0, .slice none 0 0, .slice none 0 0, .int .i64 0] := (br1.ext u2).setOther (by simp) _
  have bp2 := bo1.ext u2
  have cp2_ := bp2.cell 1 (by simp)
  have fp2_ := bp2.free 1
  have bo2 : Box (w2.setCell ⟨w.heap.size + 2, 1, none⟩ (.slice a2_ T.rows.length cp2)) (w.heap.size + 2) 39 #[.slice a1_ T.cells.length cp1, .slice a2_ T.rows.length cp2, .slice none 0 0, .int .i64 0] := bp2.set 1 _
  have v2 : Ext w (w2.setCell ⟨w.heap.size + 2, 1, none⟩ (.slice a2_ T.rows.length cp2)) := (v1.trans u2).setCell _ (by simp)
  have O0_2 := Lib.hid ((O0_1.out.ext u2).put_away ⟨w.heap.size + 2, 1, none⟩ (.slice a2_ T.rows.length cp2) (.inl (by simp only; have := SZ0.out; have := SZ1.out; have := SS1.out; have := SZ2.out; have := SS2.out; omega)))
  have O1_2s := Lib.hid (O1_2.out.put_away ⟨w.heap.size + 2, 1, none⟩ (.slice a2_ T.rows.length cp2) (.inl (by simp only; have := SZ0.out; have := SZ1.out; have := SS1.out; have := SZ2.out; have := SS2.out; omega)))
  clear O1_2
  have O1_2 := O1_2s; clear O1_2s
  have ca2_0 := ba2.cell 0 (by simp)
  have ca2_1 := ba2.cell 1 (by simp)
  have ca2_2 := ba2.cell 2 (by simp)
  have ca2_3 := ba2.cell 3 (by simp)
  have co2 := bo2.cell 2 (by simp)
  have fo2 := bo2.free 2
  go_wp2_with fail
  refine (toIntS_c _ T.cols _ (H.out.f2.ext v2) HS.out.2.2).mono ?_
  rintro e w3 ⟨x3, rfl, o3, u3⟩
  have O2_3 := Lib.hid o3
  obtain ⟨a3_, cp3, rfl, _, _, qq3⟩ := o3
  clear qq3
  have SZ3 : Hid ((w2.setCell ⟨w.heap.size + 2, 1, none⟩ (.slice a2_ T.rows.length cp2)).heap.size ≤ w3.heap.size) := Lib.hid u3.size
  have SS3 : Hid ((w3.setCell ⟨w.heap.size + 2, 2, none⟩ (.slice a3_ T.cols.length cp3)).heap.size = w3.heap.size) := Lib.hid (by simp [World.setCell])
  have ba3 : Box (w3.setCell ⟨w.heap.size + 2, 2, none⟩ (.slice a3_ T.cols.length cp3)) w.heap.size 33 #[.slice a0 T.cells.length c0, .slice a1 T.rows.length c1, .slice a2 T.cols.length c2, .int .i64 T.total] := (ba2.ext u3).setOther (by simp) _
  have br3 : Box (w3.setCell ⟨w.heap.size + 2, 2, none⟩ (.slice a3_ T.cols.length cp3)) (w.heap.size + 1) 39 #[.slice none 0 0, .slice none 0 0, .slice none 0 0, .int .i64 0] := (br2.ext u3).setOther (by simp) _
  have bp3 := bo2.ext u3
  have cp3_ := bp3.cell 2 (by simp)
  have fp3_ := bp3.free 2
  have bo3 : Box (w3.setCell ⟨w.heap.size + 2, 2, none⟩ (.slice a3_ T.cols.length cp3)) (w.heap.size + 2) 39 #[.slice a1_ T.cells.length cp1, .slice a2_ T.rows.length cp2, .slice a3_ T.cols.length cp3, .int .i64 0] := bp3.set 2 _
  have v3 : Ext w (w3.setCell ⟨w.heap.size + 2, 2, none⟩ (.slice a3_ T.cols.length cp3)) := (v2.trans u3).setCell _ (by simp)
  have O0_3 := Lib.hid ((O0_2.out.ext u3).put_away ⟨w.heap.size + 2, 2, none⟩ (.slice a3_ T.cols.length cp3) (.inl (by simp only; have := SZ0.out; have := SZ1.out; have := SS1.out; have := SZ2.out; have := SS2.out; have := SZ3.out; have := SS3.out; omega)))
  have O1_3 := Lib.hid ((O1_2.out.ext u3).put_away ⟨w.heap.size + 2, 2, none⟩ (.slice a3_ T.cols.length cp3) (.inl (by simp only; have := SZ0.out; have := SZ1.out; have := SS1.out; have := SZ2.out; have := SS2.out; have := SZ3.out; have := SS3.out; omega)))
  have O2_3s := Lib.hid (O2_3.out.put_away ⟨w.heap.size + 2, 2, none⟩ (.slice a3_ T.cols.length cp3) (.inl (by simp only; have := SZ0.out; have := SZ1.out; have := SS1.out; have := SZ2.out; have := SS2.out; have := SZ3.out; have := SS3.out; omega)))
  clear O2_3
  have O2_3 := O2_3s; clear O2_3s
  have ca3_0 := ba3.cell 0 (by simp)
  have ca3_1 := ba3.cell 1 (by simp)
  have ca3_2 := ba3.cell 2 (by simp)
  have ca3_3 := ba3.cell 3 (by simp)
  have co3 := bo3.cell 3 (by simp)
  have fo3 := bo3.free 3
  have SS4 : Hid (((w3.setCell ⟨w.heap.size + 2, 2, none⟩ (.slice a3_ T.cols.length cp3)).setCell ⟨w.heap.size + 2, 3, none⟩ (.int .i64 T.total)).heap.size = (w3.setCell ⟨w.heap.size + 2, 2, none⟩ (.slice a3_ T.cols.length cp3)).heap.size) := Lib.hid (by simp [World.setCell])
  have br4 : Box ((w3.setCell ⟨w.heap.size + 2, 2, none⟩ (.slice a3_ T.cols.length cp3)).setCell ⟨w.heap.size + 2, 3, none⟩ (.int .i64 T.total)) (w.heap.size + 1) 39 #[.slice none 0 0, .slice none 0 0, .slice none 0 0, .int .i64 0] := br3.setOther (by simp) _
  have bo4 : Box ((w3.setCell ⟨w.heap.size + 2, 2, none⟩ (.slice a3_ T.cols.length cp3)).setCell ⟨w.heap.size + 2, 3, none⟩ (.int .i64 T.total)) (w.heap.size + 2) 39 #[.slice a1_ T.cells.length cp1, .slice a2_ T.rows.length cp2, .slice a3_ T.cols.length cp3, .int .i64 T.total] := bo3.set 3 _
  have v4 : Ext w ((w3.setCell ⟨w.heap.size + 2, 2, none⟩ (.slice a3_ T.cols.length cp3)).setCell ⟨w.heap.size + 2, 3, none⟩ (.int .i64 T.total)) := v3.setCell _ (by simp)
  have O0_4 := Lib.hid (O0_3.out.put_away ⟨w.heap.size + 2, 3, none⟩ (.int .i64 T.total) (.inl (by simp only; have := SZ0.out; have := SZ1.out; have := SS1.out; have := SZ2.out; have := SS2.out; have := SZ3.out; have := SS3.out; have := SS4.out; omega)))
  have O1_4 := Lib.hid (O1_3.out.put_away ⟨w.heap.size + 2, 3, none⟩ (.int .i64 T.total) (.inl (by simp only; have := SZ0.out; have := SZ1.out; have := SS1.out; have := SZ2.out; have := SS2.out; have := SZ3.out; have := SS3.out; have := SS4.out; omega)))
  have O2_4 := Lib.hid (O2_3.out.put_away ⟨w.heap.size + 2, 3, none⟩ (.int .i64 T.total) (.inl (by simp only; have := SZ0.out; have := SZ1.out; have := SS1.out; have := SZ2.out; have := SS2.out; have := SZ3.out; have := SS3.out; have := SS4.out; omega)))
  have cf0 := bo4.cell 0 (by simp)
  have ff0 := br4.cell 0 (by simp)
  have fg0 := br4.free 0
  have cf1 := bo4.cell 1 (by simp)
  have ff1 := br4.cell 1 (by simp)
  have fg1 := br4.free 1
  have cf2 := bo4.cell 2 (by simp)
  have ff2 := br4.cell 2 (by simp)
  have fg2 := br4.free 2
  have cf3 := bo4.cell 3 (by simp)
  have ff3 := br4.cell 3 (by simp)
  have fg3 := br4.free 3
  go_wp2
  refine bodyPost_ret (v := .agg #[.slice a1_ T.cells.length cp1, .slice a2_ T.rows.length cp2, .slice a3_ T.cols.length cp3, .int .i64 T.total]) (by simp [results, Try.results24, go_sem, ff0, ff1, ff2, ff3]) rfl ?_
  refine ⟨_, rfl, RdL.o ⟨_, _, _, _, _, w.heap.size + 3, w1.heap.size, w2.heap.size, w3.heap.size, rfl, by omega, (by have := SZ0.out; have := SZ1.out; have := SS1.out; have := SZ2.out; have := SS2.out; have := SZ3.out; have := SS3.out; have := SS4.out; omega), (by have := SZ0.out; have := SZ1.out; have := SS1.out; have := SZ2.out; have := SS2.out; have := SZ3.out; have := SS3.out; have := SS4.out; omega), (by have := SZ0.out; have := SZ1.out; have := SS1.out; have := SZ2.out; have := SS2.out; have := SZ3.out; have := SS3.out; have := SS4.out; omega), ?_, (((((O0_4.out.put_away ⟨w.heap.size + 1, 0, none⟩ (.slice a1_ T.cells.length cp1) (.inl (by simp only; have := SZ0.out; have := SZ1.out; have := SS1.out; have := SZ2.out; have := SS2.out; have := SZ3.out; have := SS3.out; have := SS4.out; omega))).put_away ⟨w.heap.size + 1, 1, none⟩ (.slice a2_ T.rows.length cp2) (.inl (by simp only; have := SZ0.out; have := SZ1.out; have := SS1.out; have := SZ2.out; have := SS2.out; have := SZ3.out; have := SS3.out; have := SS4.out; omega))).put_away ⟨w.heap.size + 1, 2, none⟩ (.slice a3_ T.cols.length cp3) (.inl (by simp only; have := SZ0.out; have := SZ1.out; have := SS1.out; have := SZ2.out; have := SS2.out; have := SZ3.out; have := SS3.out; have := SS4.out; omega))).put_away ⟨w.heap.size + 1, 3, none⟩ (.int .i64 T.total) (.inl (by simp only; have := SZ0.out; have := SZ1.out; have := SS1.out; have := SZ2.out; have := SS2.out; have := SZ3.out; have := SS3.out; have := SS4.out; omega)))).mono (by have := SZ0.out; have := SZ1.out; have := SS1.out; have := SZ2.out; have := SS2.out; have := SZ3.out; have := SS3.out; have := SS4.out; omega) (Nat.le_refl _), (((((O1_4.out.put_away ⟨w.heap.size + 1, 0, none⟩ (.slice a1_ T.cells.length cp1) (.inl (by simp only; have := SZ0.out; have := SZ1.out; have := SS1.out; have := SZ2.out; have := SS2.out; have := SZ3.out; have := SS3.out; have := SS4.out; omega))).put_away ⟨w.heap.size + 1, 1, none⟩ (.slice a2_ T.rows.length cp2) (.inl (by simp only; have := SZ0.out; have := SZ1.out; have := SS1.out; have := SZ2.out; have := SS2.out; have := SZ3.out; have := SS3.out; have := SS4.out; omega))).put_away ⟨w.heap.size + 1, 2, none⟩ (.slice a3_ T.cols.length cp3) (.inl (by simp only; have := SZ0.out; have := SZ1.out; have := SS1.out; have := SZ2.out; have := SS2.out; have := SZ3.out; have := SS3.out; have := SS4.out; omega))).put_away ⟨w.heap.size + 1, 3, none⟩ (.int .i64 T.total) (.inl (by simp only; have := SZ0.out; have := SZ1.out; have := SS1.out; have := SZ2.out; have := SS2.out; have := SZ3.out; have := SS3.out; have := SS4.out; omega)))).mono (by have := SZ0.out; have := SZ1.out; have := SS1.out; have := SZ2.out; have := SS2.out; have := SZ3.out; have := SS3.out; have := SS4.out; omega) (Nat.le_refl _), (((((O2_4.out.put_away ⟨w.heap.size + 1, 0, none⟩ (.slice a1_ T.cells.length cp1) (.inl (by simp only; have := SZ0.out; have := SZ1.out; have := SS1.out; have := SZ2.out; have := SS2.out; have := SZ3.out; have := SS3.out; have := SS4.out; omega))).put_away ⟨w.heap.size + 1, 1, none⟩ (.slice a2_ T.rows.length cp2) (.inl (by simp only; have := SZ0.out; have := SZ1.out; have := SS1.out; have := SZ2.out; have := SS2.out; have := SZ3.out; have := SS3.out; have := SS4.out; omega))).put_away ⟨w.heap.size + 1, 2, none⟩ (.slice a3_ T.cols.length cp3) (.inl (by simp only; have := SZ0.out; have := SZ1.out; have := SS1.out; have := SZ2.out; have := SS2.out; have := SZ3.out; have := SS3.out; have := SS4.out; omega))).put_away ⟨w.heap.size + 1, 3, none⟩ (.int .i64 T.total) (.inl (by simp only; have := SZ0.out; have := SZ1.out; have := SS1.out; have := SZ2.out; have := SS2.out; have := SZ3.out; have := SS3.out; have := SS4.out; omega)))).mono (by have := SZ0.out; have := SZ1.out; have := SS1.out; have := SZ2.out; have := SS2.out; have := SZ3.out; have := SS3.out; have := SS4.out; omega) (Nat.le_refl _), rfl⟩, ((((v4.setCell _ (by simp)).setCell _ (by simp)).setCell _ (by simp)).setCell _ (by simp))⟩
  have := SS4.out
  simp [World.setCell]
set_option maxHeartbeats 1600000 in
theorem eqRounding_t (v1 v2 : Value) (T : Rd) (w : World) (h1 : RdR w v1 T) (h2 : RdR w v2 T) :
    Calls Try.prog 27 #[v1, v2] w fun e w' => e = .returned (.bool true) ∧ Ext w w' := by
  have H1 := Lib.hid h1
  have H2 := Lib.hid h2
  obtain ⟨a0, c0, a1, c1, a2, c2, rfl, _, _, _⟩ := h1.form
  obtain ⟨d0, e0, d1, e1, d2, e2, rfl, _, _, _⟩ := h2.form
  clear h1 h2
  have v0 := ((Ext.refl w).alloc (.cells #[.slice a0 T.cells.length c0, .slice a1 T.rows.length c1, .slice a2 T.cols.length c2, .int .i64 T.total] 39)).alloc (.cells #[.slice d0 T.cells.length e0, .slice d1 T.rows.length e1, .slice d2 T.cols.length e2, .int .i64 T.total] 39)
  have b1_0 := (Box.new w 39 #[.slice a0 T.cells.length c0, .slice a1 T.rows.length c1, .slice a2 T.cols.length c2, .int .i64 T.total] rfl).alloc (.cells #[.slice d0 T.cells.length e0, .slice d1 T.rows.length e1, .slice d2 T.cols.length e2, .int .i64 T.total] 39)
  have b2_0 := Box.new (w.alloc (.cells #[.slice a0 T.cells.length c0, .slice a1 T.rows.length c1, .slice a2 T.cols.length c2, .int .i64 T.total] 39)) 39 #[.slice d0 T.cells.length e0, .slice d1 T.rows.length e1, .slice d2 T.cols.length e2, .int .i64 T.total] (b := w.heap.size + 1) (by simp)
  have qi3 : (T.total != T.total) = false := by simp
  go_enter Try.func27, Try.ntmps27
  have k1_0_0 := b1_0.cell 0 (by simp)
  have k2_0_0 := b2_0.cell 0 (by simp)
  have k1_0_1 := b1_0.cell 1 (by simp)
  have k2_0_1 := b2_0.cell 1 (by simp)
  have k1_0_2 := b1_0.cell 2 (by simp)
  have k2_0_2 := b2_0.cell 2 (by simp)
  have k1_0_3 := b1_0.cell 3 (by simp)
  have k2_0_3 := b2_0.cell 3 (by simp)
  go_wp2_with fail
  refine (eqIntSS_b true _ _ T.cells T.cells _ (by simp) (H1.out.f0.ext v0) (H2.out.f0.ext v0)).mono ?_
  rintro e w1 ⟨rfl, d1_⟩
  have u1 := Drew.ext d1_
  have v1 := v0.trans u1
  have b1_1 := b1_0.ext u1
  have b2_1 := b2_0.ext u1
  have k1_1_0 := b1_1.cell 0 (by simp)
  have k2_1_0 := b2_1.cell 0 (by simp)
  have k1_1_1 := b1_1.cell 1 (by simp)
  have k2_1_1 := b2_1.cell 1 (by simp)
  have k1_1_2 := b1_1.cell 2 (by simp)
  have k2_1_2 := b2_1.cell 2 (by simp)
  have k1_1_3 := b1_1.cell 3 (by simp)
  have k2_1_3 := b2_1.cell 3 (by simp)
  go_wp2_with fail
  refine (eqIntS_b true _ _ T.rows T.rows _ (by simp) (H1.out.f1.ext v1) (H2.out.f1.ext v1)).mono ?_
  rintro e w2 ⟨rfl, d2_⟩
  have u2 := Drew.ext d2_
  have v2 := v1.trans u2
  have b1_2 := b1_1.ext u2
  have b2_2 := b2_1.ext u2
  have k1_2_0 := b1_2.cell 0 (by simp)
  have k2_2_0 := b2_2.cell 0 (by simp)
  have k1_2_1 := b1_2.cell 1 (by simp)
  have k2_2_1 := b2_2.cell 1 (by simp)
  have k1_2_2 := b1_2.cell 2 (by simp)
  have k2_2_2 := b2_2.cell 2 (by simp)
  have k1_2_3 := b1_2.cell 3 (by simp)
  have k2_2_3 := b2_2.cell 3 (by simp)
  go_wp2_with fail
  refine (eqIntS_b true _ _ T.cols T.cols _ (by simp) (H1.out.f2.ext v2) (H2.out.f2.ext v2)).mono ?_
  rintro e w3 ⟨rfl, d3_⟩
  have u3 := Drew.ext d3_
  have v3 := v2.trans u3
  have b1_3 := b1_2.ext u3
  have b2_3 := b2_2.ext u3
  have k1_3_0 := b1_3.cell 0 (by simp)
  have k2_3_0 := b2_3.cell 0 (by simp)
  have k1_3_1 := b1_3.cell 1 (by simp)
  have k2_3_1 := b2_3.cell 1 (by simp)
  have k1_3_2 := b1_3.cell 2 (by simp)
  have k2_3_2 := b2_3.cell 2 (by simp)
  have k1_3_3 := b1_3.cell 3 (by simp)
  have k2_3_3 := b2_3.cell 3 (by simp)
  go_wp2
  go_ret
  exact ⟨rfl, v3⟩
def RdSize (T : Rd) : Int := (psum T.cells T.cells.length : Int) + (T.rows.length : Int) + (T.cols.length : Int)
theorem RdSmall.size {T : Rd} (h : RdSmall T) : 0 ≤ RdSize T ∧ RdSize T ≤ 3145728 := by
  obtain ⟨h0, h1, h2⟩ := h
  have := h0.psum T.cells.length (Nat.le_refl _)
  unfold RdSize; omega
/-- T', of the shape of T, is marked from k0 on -/
def RdMarked (k0 : Int) (T T' : Rd) : Prop := MarkedG (k0) T.cells T'.cells ∧ T'.rows = seqI (k0 + (psum T.cells T.cells.length : Int)) T.rows.length ∧ T'.cols = seqI (k0 + (psum T.cells T.cells.length : Int) + (T.rows.length : Int)) T.cols.length
set_option maxHeartbeats 1600000 in
theorem markRounding_c (lo hi : Nat) (v : Value) (T : Rd) (k0 : Int) (w : World) (h : RdO lo hi w v T) (s : RdSmall T) (hk0 : 0 ≤ k0 ∧ k0 ≤ 1099500000000) :
    Calls Try.prog 44 #[v, .int .i64 k0] w fun e w' => e = .returned (.int .i64 (k0 + RdSize T)) ∧ (∃ T', RdO lo hi w' v T' ∧ RdMarked k0 T T') ∧ Upd (fun b => lo ≤ b ∧ b < hi) w w' := by
  have HS := Lib.hid s; clear s
  obtain ⟨a0, c0, a1, c1, a2, c2, rfl, _⟩ := h.read.form
  obtain ⟨v0, v1, v2, v3, r0, hv, o0, o1, o2, d0_1, d0_2, d1_2, z3⟩ := h
  simp only [Value.agg.injEq, Array.mk.injEq, List.cons.injEq, and_true] at hv
  obtain ⟨rfl, rfl, rfl, rfl⟩ := hv
  have u0 := (Ext.refl w).alloc (.cells #[.slice a0 T.cells.length c0, .slice a1 T.rows.length c1, .slice a2 T.cols.length c2, .int .i64 T.total] 39)
  have b0 := Box.new w 39 #[.slice a0 T.cells.length c0, .slice a1 T.rows.length c1, .slice a2 T.cols.length c2, .int .i64 T.total] rfl
  have IN0 := Lib.hid (show ∀ b, GB (.slice a0 T.cells.length c0) r0 T.cells b → lo ≤ b ∧ b < hi ∧ b < w.heap.size from fun b hb => o0.inside hb)
  have IN1 := Lib.hid (show ∀ b, IB (.slice a1 T.rows.length c1) T.rows b → lo ≤ b ∧ b < hi ∧ b < w.heap.size from fun b hb => o1.inside hb)
  have IN2 := Lib.hid (show ∀ b, IB (.slice a2 T.cols.length c2) T.cols b → lo ≤ b ∧ b < hi ∧ b < w.heap.size from fun b hb => o2.inside hb)
  have D0_1 := Lib.hid d0_1; clear d0_1
  have D0_2 := Lib.hid d0_2; clear d0_2
  have D1_2 := Lib.hid d1_2; clear d1_2
  have O0_0 := Lib.hid (o0.ext u0); clear o0
  have O1_0 := Lib.hid (o1.ext u0); clear o1
  have O2_0 := Lib.hid (o2.ext u0); clear o2
  obtain ⟨t0, ht0⟩ : ∃ t, k0 + (psum T.cells T.cells.length : Int) = t := ⟨_, rfl⟩
  have tb0 : 0 ≤ t0 ∧ t0 ≤ 1099501048576 := by have := HS.out.1.psum _ (Nat.le_refl _); omega
  have HT0 := Lib.hid ht0; clear ht0
  obtain ⟨t1, ht1⟩ : ∃ t, t0 + (T.rows.length : Int) = t := ⟨_, rfl⟩
  have tb1 : 0 ≤ t1 ∧ t1 ≤ 1099502097152 := by have := HS.out.2.1; omega
  have HT1 := Lib.hid ht1; clear ht1
  obtain ⟨t2, ht2⟩ : ∃ t, t1 + (T.cols.length : Int) = t := ⟨_, rfl⟩
  have tb2 : 0 ≤ t2 ∧ t2 ≤ 1099503145728 := by have := HS.out.2.2; omega
  have HT2 := Lib.hid ht2; clear ht2
  have k0_0 := b0.cell 0 (by simp)
  have k0_1 := b0.cell 1 (by simp)
  have k0_2 := b0.cell 2 (by simp)
  have k0_3 := b0.cell 3 (by simp)
  go_enter Try.func44, Try.ntmps44
  go_wp2_with fail
  refine (markIntSS_c _ _ _ _ T.cells k0 _ O0_0.out HS.out.1.row HS.out.1.psum (by omega)).mono ?_
  rw [HT0.out]
  rintro e w1 ⟨rfl, ⟨ys0, om0, mk0⟩, uu1⟩
  have MK0 := Lib.hid mk0; clear mk0
  have U1 : Hid (Upd (fun b => rowBlks r0 T.cells b ∧ b ≠ w.heap.size) _ w1) := Lib.hid (uu1.mono (fun b _ hb => ⟨hb, by have := IN0.out b (.inr hb); omega⟩))
  have OM0_1 := Lib.hid om0; clear om0 uu1
  have b1 := b0.upd U1.out (fun hb => hb.2 rfl)
  have k1_0 := b1.cell 0 (by simp)
  have k1_1 := b1.cell 1 (by simp)
  have k1_2 := b1.cell 2 (by simp)
  have k1_3 := b1.cell 3 (by simp)
  have O1_1 := Lib.hid (O1_0.out.keepB U1.out (fun b hb hs => D0_1.out b (.inr hs.1) hb))
  have O2_1 := Lib.hid (O2_0.out.keepB U1.out (fun b hb hs => D0_2.out b (.inr hs.1) hb))
  go_wp2_with fail
  refine (markIntS_c _ _ _ T.rows t0 _ O1_1.out HS.out.2.1 (by omega)).mono ?_
  rw [HT1.out]
  rintro e w2 ⟨rfl, om1, uu2⟩
  have U2 : Hid (Upd (fun b => IB (.slice a1 T.rows.length c1) T.rows b ∧ b ≠ w.heap.size) _ w2) := Lib.hid (uu2.mono (fun b _ hb => ⟨hb, by have := IN1.out b hb; omega⟩))
  have OM1_2 := Lib.hid om1; clear om1 uu2
  have b2 := b1.upd U2.out (fun hb => hb.2 rfl)
  have k2_0 := b2.cell 0 (by simp)
  have k2_1 := b2.cell 1 (by simp)
  have k2_2 := b2.cell 2 (by simp)
  have k2_3 := b2.cell 3 (by simp)
  have OM0_2 := Lib.hid (OM0_1.out.keepB U2.out (fun b hb hs => D0_1.out b (GB.of_marked MK0.out hb) hs.1))
  have O2_2 := Lib.hid (O2_1.out.keepB U2.out (fun b hb hs => D1_2.out b hs.1 hb))
  go_wp2_with fail
  refine (markIntS_c _ _ _ T.cols t1 _ O2_2.out HS.out.2.2 (by omega)).mono ?_
  rw [HT2.out]
  rintro e w3 ⟨rfl, om2, uu3⟩
  have U3 : Hid (Upd (fun b => IB (.slice a2 T.cols.length c2) T.cols b ∧ b ≠ w.heap.size) _ w3) := Lib.hid (uu3.mono (fun b _ hb => ⟨hb, by have := IN2.out b hb; omega⟩))
  have OM2_3 := Lib.hid om2; clear om2 uu3
  have b3 := b2.upd U3.out (fun hb => hb.2 rfl)
  have k3_0 := b3.cell 0 (by simp)
  have k3_1 := b3.cell 1 (by simp)
  have k3_2 := b3.cell 2 (by simp)
  have k3_3 := b3.cell 3 (by simp)
  have OM0_3 := Lib.hid (OM0_2.out.keepB U3.out (fun b hb hs => D0_2.out b (GB.of_marked MK0.out hb) hs.1))
  have OM1_3 := Lib.hid (OM1_2.out.keepB U3.out (fun b hb hs => D1_2.out b (IB.of_len (seqI_length _ _) hb) hs.1))
  go_wp2
  go_ret
  refine ⟨ret_int (by unfold RdSize; have := HT0.out; have := HT1.out; have := HT2.out;  omega), ⟨⟨ys0, seqI t0 T.rows.length, seqI t1 T.cols.length, T.total⟩, ⟨.slice a0 T.cells.length c0, .slice a1 T.rows.length c1, .slice a2 T.cols.length c2, _, r0, rfl, by first | exact OM0_3.out | (simpa using OM0_3.out), by first | exact OM1_3.out | (simpa using OM1_3.out), by first | exact OM2_3.out | (simpa using OM2_3.out), fun b h1 h2 => D0_1.out b (GB.of_marked MK0.out h1) (IB.of_len (seqI_length _ _) h2), fun b h1 h2 => D0_2.out b (GB.of_marked MK0.out h1) (IB.of_len (seqI_length _ _) h2), fun b h1 h2 => D1_2.out b (IB.of_len (seqI_length _ _) h1) (IB.of_len (seqI_length _ _) h2), rfl⟩, ?_⟩, ?_⟩
  · refine ⟨MK0.out, by rw [HT0.out], by rw [HT0.out, HT1.out]⟩
  · exact u0.then_upd (((U1.out.mono (fun b _ hb => by have := IN0.out b (.inr hb.1); omega)).trans (U2.out.mono (fun b _ hb => by have := IN1.out b hb.1; omega))).trans (U3.out.mono (fun b _ hb => by have := IN2.out b hb.1; omega)))
set_option maxHeartbeats 1600000 in
theorem heldRounding_c (v : Value) (T T' : Rd) (k0 : Int) (w : World) (h : RdR w v T') (hm : RdMarked k0 T T') (s : RdSmall T) (hk0 : 0 ≤ k0 ∧ k0 ≤ 1099500000000) :
    Calls Try.prog 45 #[v, .int .i64 k0] w fun e w' => e = .returned (.int .i64 (k0 + RdSize T)) ∧ Ext w w' := by
  have HS := Lib.hid s; clear s
  have H := Lib.hid h
  have HM := Lib.hid hm; clear hm
  obtain ⟨a0, c0, a1, c1, a2, c2, rfl, _⟩ := h.form
  clear h
  have u0 := (Ext.refl w).alloc (.cells #[.slice a0 T'.cells.length c0, .slice a1 T'.rows.length c1, .slice a2 T'.cols.length c2, .int .i64 T'.total] 39)
  have b0 := Box.new w 39 #[.slice a0 T'.cells.length c0, .slice a1 T'.rows.length c1, .slice a2 T'.cols.length c2, .int .i64 T'.total] rfl
  obtain ⟨t0, ht0⟩ : ∃ t, k0 + (psum T.cells T.cells.length : Int) = t := ⟨_, rfl⟩
  have tb0 : 0 ≤ t0 ∧ t0 ≤ 1099501048576 := by have := HS.out.1.psum _ (Nat.le_refl _); omega
  have tn0 : ¬ (t0 < 0) := by omega
  have HT0 := Lib.hid ht0; clear ht0
  obtain ⟨t1, ht1⟩ : ∃ t, t0 + (T.rows.length : Int) = t := ⟨_, rfl⟩
  have tb1 : 0 ≤ t1 ∧ t1 ≤ 1099502097152 := by have := HS.out.2.1; omega
  have tn1 : ¬ (t1 < 0) := by omega
  have HT1 := Lib.hid ht1; clear ht1
  obtain ⟨t2, ht2⟩ : ∃ t, t1 + (T.cols.length : Int) = t := ⟨_, rfl⟩
  have tb2 : 0 ≤ t2 ∧ t2 ≤ 1099503145728 := by have := HS.out.2.2; omega
  have tn2 : ¬ (t2 < 0) := by omega
  have HT2 := Lib.hid ht2; clear ht2
  have k0_0 := b0.cell 0 (by simp)
  have k0_1 := b0.cell 1 (by simp)
  have k0_2 := b0.cell 2 (by simp)
  have k0_3 := b0.cell 3 (by simp)
  go_enter Try.func45, Try.ntmps45
  go_wp2_with fail
  refine (heldIntSS_c _ T.cells T'.cells k0 _ (H.out.f0.ext u0) (by have := HM.out.1; exact this) HS.out.1.row HS.out.1.psum (by omega)).mono ?_
  rw [HT0.out]
  rintro e w' ⟨rfl, rfl⟩
  go_wp2_with fail
  refine (heldIntS_c _ T.rows.length t0 _ (by have := HM.out.2.1; rw [HT0.out] at this; have h2 := H.out.f1.ext u0; rw [← this]; exact h2) HS.out.2.1 (by omega)).mono ?_
  rw [HT1.out]
  rintro e w' ⟨rfl, rfl⟩
  go_wp2_with fail
  refine (heldIntS_c _ T.cols.length t1 _ (by have := HM.out.2.2; rw [HT0.out] at this; rw [HT1.out] at this; have h2 := H.out.f2.ext u0; rw [← this]; exact h2) HS.out.2.2 (by omega)).mono ?_
  rw [HT2.out]
  rintro e w' ⟨rfl, rfl⟩
  go_wp2
  go_ret
  exact ⟨ret_int (by unfold RdSize; have := HT0.out; have := HT1.out; have := HT2.out;  omega), u0⟩
end Go.Proofs.Ytmffhipfodlomaa
