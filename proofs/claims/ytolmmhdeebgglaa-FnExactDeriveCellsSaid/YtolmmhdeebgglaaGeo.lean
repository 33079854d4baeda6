/- Geographies: how they are read, and the contracts of the laws' own helpers over them. -/
import Derived.Test.YtolmmhdeebgglaaTa
import Derived.Deep.RegionHeld3
namespace Go.Proofs.Ytolmmhdeebgglaa
open Go.RowKit

/-- a geography: the parents of its areas -/
structure Ge where
  par : List Int
def GeR (w : World) (v : Value) (T : Ge) : Prop := ∃ v1, v = .agg #[v1] ∧ Ints w v1 T.par
def GeWf (T : Ge) : Prop := Wf T.par
def GeSmall (T : Ge) : Prop := T.par.length ≤ 1048576
theorem GeR.ext {w w' : World} {v : Value} {T : Ge} (h : GeR w v T) (u : Ext w w') : GeR w' v T := by
  obtain ⟨v1, rfl, h1⟩ := h
  exact ⟨v1, rfl, h1.ext u⟩
theorem GeR.form {w : World} {v : Value} {T : Ge} (h : GeR w v T) : ∃ a0 c0, v = .agg #[.slice a0 T.par.length c0] ∧ T.par.length ≤ 9223372036854775807 := by
  obtain ⟨v1, rfl, h1⟩ := h
  obtain ⟨a1, c1, rfl, p1, q1, _⟩ := h1
  exact ⟨a1, c1, rfl, by omega⟩
theorem GeR.f0 {w : World} {T : Ge} {v0 : Value} (h : GeR w (.agg #[v0]) T) : Ints w v0 T.par := by
  obtain ⟨x1, e, h1⟩ := h
  simp only [Value.agg.injEq, Array.mk.injEq, List.cons.injEq, and_true] at e
  subst e
  exact h1
def GeO (lo hi : Nat) (w : World) (v : Value) (T : Ge) : Prop := ∃ v1, v = .agg #[v1] ∧ Own lo hi w v1 T.par
namespace GeO
variable {lo hi lo' hi' : Nat} {S : Nat → Prop} {w w' : World} {v : Value} {T : Ge}
theorem read (h : GeO lo hi w v T) : GeR w v T := by
  obtain ⟨v1, rfl, h1⟩ := h
  exact ⟨v1, rfl, h1.ints⟩
theorem ext (h : GeO lo hi w v T) (u : Ext w w') : GeO lo hi w' v T := by
  obtain ⟨v1, rfl, h1⟩ := h
  exact ⟨v1, rfl, h1.ext u⟩
theorem away (h : GeO lo hi w v T) (u : Upd S w w') (hs : ∀ b, S b → b < lo ∨ hi ≤ b) : GeO lo hi w' v T := by
  obtain ⟨v1, rfl, h1⟩ := h
  exact ⟨v1, rfl, h1.away u hs⟩
theorem mono (h : GeO lo hi w v T) (h1 : lo' ≤ lo) (h2 : hi ≤ hi') : GeO lo' hi' w v T := by
  obtain ⟨v1, rfl, o1⟩ := h
  exact ⟨v1, rfl, o1.mono h1 h2⟩
end GeO
def GeSize (T : Ge) : Int := (T.par.length : Int)
theorem GeSmall.size {T : Ge} (h : GeSmall T) : 0 ≤ GeSize T ∧ GeSize T ≤ 1048576 := by
  unfold GeSize; unfold GeSmall at h; omega
def GeMarked (k0 : Int) (T T' : Ge) : Prop := T'.par = seqI k0 T.par.length
def TaMarked (k0 : Int) (T T' : Ta) : Prop := T'.vars = seqI k0 T.vars.length ∧ T'.cond = seqI (k0 + T.vars.length) T.cond.length ∧ T'.level = T.level ∧ T'.sum = T.sum

set_option maxHeartbeats 400000 in
theorem szGeo_c (v : Value) (T : Ge) (left : Int) (w : World) (h : GeR w v T) (h0 : 0 ≤ left ∧ left ≤ 1048576) :
    Calls Try.prog 6 #[v, .int .i64 left] w fun e w' => ∃ r, e = .returned (.int .i64 r) ∧ (r < 0 ∨ (0 ≤ r ∧ r ≤ left ∧ GeSmall T)) ∧ Ext w w' := by
  obtain ⟨a1, c1, rfl, n1⟩ := h.form
  clear h
  obtain ⟨n, hn⟩ : ∃ n, T.par.length = n := ⟨_, rfl⟩
  rw [hn] at n1 ⊢
  have HN := Lib.hid hn; clear hn
  have u0 := (Ext.refl w).alloc (.cells #[.slice a1 n c1] 24)
  have b0 := Box.new w 24 #[.slice a1 n c1] rfl
  have k0 := b0.cell 0 (by simp)
  rcases szI_cases left n with ⟨e, e2⟩ | ⟨e, e2⟩
  · have E := Lib.hid e; clear e
    go_enter Try.func6, Try.ntmps6
    go_wp2_with fail
    refine (szIntS_c a1 n c1 left _ n1 h0).mono ?_
    rw [E.out]
    rintro e w' ⟨rfl, rfl⟩
    go_wp2
    go_ret
    exact ⟨_, rfl, .inl (by omega), u0⟩
  · have E := Lib.hid e; clear e
    go_enter Try.func6, Try.ntmps6
    go_wp2_with fail
    refine (szIntS_c a1 n c1 left _ n1 h0).mono ?_
    rw [E.out]
    rintro e w' ⟨rfl, rfl⟩
    go_wp2
    go_ret
    exact ⟨_, rfl, .inr ⟨by omega, by omega, by unfold GeSmall; rw [HN.out]; omega⟩, u0⟩
set_option maxHeartbeats 400000 in
theorem eqGeo_t (v1 v2 : Value) (T : Ge) (w : World) (h1 : GeR w v1 T) (h2 : GeR w v2 T) :
    Calls Try.prog 15 #[v1, v2] w fun e w' => e = .returned (.bool true) ∧ Ext w w' := by
  obtain ⟨r1, rfl, i1⟩ := h1
  obtain ⟨r2, rfl, i2⟩ := h2
  have I1 := Lib.hid i1; clear i1
  have I2 := Lib.hid i2; clear i2
  have u0 := ((Ext.refl w).alloc (.cells #[r1] 33)).alloc (.cells #[r2] 33)
  have b1 := (Box.new w 33 #[r1] rfl).alloc (.cells #[r2] 33)
  have b2 := Box.new (w.alloc (.cells #[r1] 33)) 33 #[r2] (b := w.heap.size + 1) (by simp)
  have c0 := b1.cell 0 (by simp)
  have d0 := b2.cell 0 (by simp)
  go_enter Try.func15, Try.ntmps15
  go_wp2_with fail
  refine (eqIntS_b true _ _ T.par T.par _ (by simp) (I1.out.ext u0) (I2.out.ext u0)).mono ?_
  rintro e w1 ⟨rfl, e1⟩
  go_wp2
  go_ret
  exact ⟨rfl, u0.trans (Drew.ext e1)⟩
set_option maxHeartbeats 800000 in
theorem toGeo_c (v : Value) (T : Ge) (w : World) (h : GeR w v T) (hs : GeSmall T) :
    Calls Try.prog 10 #[v] w fun e w' => ∃ v', e = .returned v' ∧ GeO w.heap.size w'.heap.size w' v' T ∧ Ext w w' := by
  obtain ⟨r1, rfl, i1⟩ := h
  have I1 := Lib.hid i1
  obtain ⟨a1, c1, rfl, p1, p2, p3⟩ := i1
  clear p3
  have HS := Lib.hid hs; clear hs
  obtain ⟨n, hn⟩ : ∃ n, T.par.length = n := ⟨_, rfl⟩
  rw [hn] at p1 I1 ⊢
  have HN := Lib.hid hn; clear hn
  have u0 := (((Ext.refl w).alloc (.cells #[.slice a1 n c1] 24)).alloc (.cells #[.slice none 0 0] 33)).alloc (.cells #[.slice none 0 0] 33)
  have bx := ((Box.new w 24 #[.slice a1 n c1] rfl).alloc (.cells #[.slice none 0 0] 33)).alloc (.cells #[.slice none 0 0] 33)
  have br := (Box.new (w.alloc (.cells #[.slice a1 n c1] 24)) 33 #[.slice none 0 0] (b := w.heap.size + 1) (by simp)).alloc (.cells #[.slice none 0 0] 33)
  have bo := Box.new ((w.alloc (.cells #[.slice a1 n c1] 24)).alloc (.cells #[.slice none 0 0] 33)) 33 #[.slice none 0 0] (b := w.heap.size + 1 + 1) (by simp)
  have cx := bx.cell 0 (by simp)
  go_enter Try.func10, Try.ntmps10
  go_wp2_with fail
  obtain ⟨wq, hwq⟩ : ∃ wq, wq = ((w.alloc (.cells #[.slice a1 n c1] 24)).alloc (.cells #[.slice none 0 0] 33)).alloc (.cells #[.slice none 0 0] 33) := ⟨_, rfl⟩
  have szq : wq.heap.size = w.heap.size + 3 := by rw [hwq]; simp
  rw [← hwq] at u0 bx br bo ⊢
  have HSQ := Lib.hid szq; clear szq hwq cx
  refine (toIntS_c _ T.par _ (I1.out.ext u0) HS.out).mono ?_
  rintro e w1 ⟨x1, rfl, o1, u1⟩
  have O1 := Lib.hid o1
  obtain ⟨a3, c3, rfl, _, _, q3⟩ := o1
  clear q3
  rw [HN.out] at O1 ⊢
  have hs1 := u1.size
  have bo1 := bo.ext u1
  have br1 := br.ext u1
  have k0 := bo1.cell 0 (by simp)
  have f0 := bo1.free 0
  have l0 := br1.cell 0 (by simp)
  have g0 := br1.free 0
  have P1 := (O1.out.put_away ⟨w.heap.size + 1 + 1, 0, none⟩ (.slice a3 n c3) (.inl (by simp only; have := HSQ.out; omega))).put_away ⟨w.heap.size + 1, 0, none⟩ (.slice a3 n c3) (.inl (by simp only; have := HSQ.out; omega))
  have E3 := ((u0.trans u1).setCell (a := ⟨w.heap.size + 1 + 1, 0, none⟩) (.slice a3 n c3) (by simp only; omega)).setCell (a := ⟨w.heap.size + 1, 0, none⟩) (.slice a3 n c3) (by simp only; omega)
  have HP := Lib.hid (And.intro P1 E3); clear P1 E3 bo1 br1 bx br bo
  go_wp2
  refine bodyPost_ret (v := .agg #[.slice a3 n c3]) (by simp [results, Try.results10, go_sem, l0]) rfl ⟨_, rfl, ⟨_, rfl, ?_⟩, HP.out.2⟩
  exact HP.out.1.mono (by have := HSQ.out; omega) (by simp [World.setCell])
set_option maxHeartbeats 800000 in
theorem markGeo_c (lo hi : Nat) (v : Value) (T : Ge) (k0 : Int) (w : World) (h : GeO lo hi w v T) (s : GeSmall T) (hk0 : 0 ≤ k0 ∧ k0 ≤ 1099500000000) :
    Calls Try.prog 18 #[v, .int .i64 k0] w fun e w' => e = .returned (.int .i64 (k0 + GeSize T)) ∧ (∃ T', GeO lo hi w' v T' ∧ GeMarked k0 T T') ∧ Upd (fun b => lo ≤ b ∧ b < hi) w w' := by
  obtain ⟨v1, rfl, o1⟩ := h
  have u0 := (Ext.refl w).alloc (.cells #[v1] 33)
  have b0 := Box.new w 33 #[v1] rfl
  have O := Lib.hid (o1.ext u0)
  have HR := Lib.hid (show T.par ≠ [] → lo ≤ blk v1 ∧ blk v1 < hi from fun h => ⟨(o1.range h).1, (o1.range h).2.1⟩)
  have k1 := b0.cell 0 (by simp)
  unfold GeSize
  unfold GeSmall at s
  clear o1
  go_enter Try.func18, Try.ntmps18
  go_wp2_with fail
  refine (markIntS_c lo hi _ T.par k0 _ O.out s (by omega)).mono ?_
  rintro e w1 ⟨rfl, hown, hu⟩
  have HO := Lib.hid hown; clear hown
  have HU := Lib.hid hu; clear hu
  go_wp2
  go_ret
  exact ⟨rfl, ⟨⟨seqI k0 T.par.length⟩, ⟨_, rfl, HO.out⟩, rfl⟩, u0.upd.trans (HU.out.mono (fun b _ hb => by have := HR.out hb.1; rw [hb.2]; exact this))⟩
set_option maxHeartbeats 800000 in
theorem markTable_c (lo hi : Nat) (v : Value) (T : Ta) (k0 : Int) (w : World) (h : TaO lo hi w v T) (s : TaSmall T) (hk0 : 0 ≤ k0 ∧ k0 ≤ 1099500000000) :
    Calls Try.prog 34 #[v, .int .i64 k0] w fun e w' => e = .returned (.int .i64 (k0 + TaSize T)) ∧ (∃ T', TaO lo hi w' v T' ∧ TaMarked k0 T T') ∧ Upd (fun b => lo ≤ b ∧ b < hi) w w' := by
  obtain ⟨v1, v2, rfl, o1, o2, od⟩ := h
  obtain ⟨A, hA⟩ : ∃ A, T.level = A := ⟨_, rfl⟩
  obtain ⟨B, hB⟩ : ∃ B, T.sum = B := ⟨_, rfl⟩
  rw [hA, hB]
  have HAB := Lib.hid (And.intro hA hB); clear hA hB
  have u0 := (Ext.refl w).alloc (.cells #[.int .i64 A, v1, v2, .int .i64 B] 56)
  have b0 := Box.new w 56 #[.int .i64 A, v1, v2, .int .i64 B] rfl
  have hlt := fun h => (o1.range h).2.2
  have O1 := Lib.hid (o1.ext u0)
  have O2 := Lib.hid (o2.ext u0)
  have HD := Lib.hid od; clear od
  have HR1 := Lib.hid (show T.vars ≠ [] → lo ≤ blk v1 ∧ blk v1 < hi ∧ blk v1 < w.heap.size from fun h => o1.range h)
  have HR2 := Lib.hid (show T.cond ≠ [] → lo ≤ blk v2 ∧ blk v2 < hi from fun h => ⟨(o2.range h).1, (o2.range h).2.1⟩)
  have k1 := b0.cell 1 (by simp)
  unfold TaSize
  obtain ⟨s1, s2⟩ := s
  clear o1 o2 hlt
  go_enter Try.func34, Try.ntmps34
  go_wp2_with fail
  refine (markIntS_c lo hi _ T.vars k0 _ O1.out s1 (by omega)).mono ?_
  rintro e w1 ⟨rfl, hown, hu⟩
  have HO1 := Lib.hid hown; clear hown
  have b1 := b0.upd hu (fun hb => by have := HR1.out hb.1; omega)
  have k2 := b1.cell 2 (by simp)
  have HU1 := Lib.hid hu
  have HO2 := Lib.hid (O2.out.upd hu (fun h hb => HD.out hb.1 h hb.2.symm))
  clear hu k1
  go_wp2_with fail
  refine (markIntS_c lo hi _ T.cond (k0 + T.vars.length) _ HO2.out s2 (by omega)).mono ?_
  rintro e w2 ⟨rfl, hown, hu⟩
  have HO3 := Lib.hid hown; clear hown
  have HU2 := Lib.hid hu
  have HO4 := Lib.hid (HO1.out.upd hu (fun h hb => HD.out (fun e => h (by rw [e]; rfl)) hb.1 hb.2))
  clear hu k2
  go_wp2
  go_ret
  exact ⟨ret_int (by omega), ⟨⟨A, seqI k0 T.vars.length, seqI (k0 + T.vars.length) T.cond.length, B⟩, ⟨_, _, rfl, HO4.out, HO3.out, fun h1 h2 => HD.out (fun e => h1 (by show seqI _ _ = []; rw [e]; rfl)) (fun e => h2 (by show seqI _ _ = []; rw [e]; rfl))⟩, rfl, rfl, HAB.out.1.symm, HAB.out.2.symm⟩, (u0.upd.trans (HU1.out.mono (fun b _ hb => by have := HR1.out hb.1; rw [hb.2]; exact ⟨this.1, this.2.1⟩))).trans (HU2.out.mono (fun b _ hb => by have := HR2.out hb.1; rw [hb.2]; exact this))⟩
end Go.Proofs.Ytolmmhdeebgglaa
