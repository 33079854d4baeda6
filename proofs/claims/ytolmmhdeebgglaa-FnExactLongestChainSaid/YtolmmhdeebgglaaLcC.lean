/- The longest chain of tables of a plan: the closure of the program's LongestChain. -/
import Derived.Test.YtolmmhdeebgglaaLcH
import Derived.Test.YtolmmhdeebgglaaApp
import Derived.Test.YtolmmhdeebgglaaHold
import Derived.BigQuiet
import Derived.Deep.RegionLaw
import Derived.Deep.Upon
import Derived.Lib.AppendZeros
namespace Go.Proofs.Ytolmmhdeebgglaa
open Go.RowKit

theorem IRow.cap_ {lo : Nat} {w : World} {xs : List Int} {a : Option Addr} {n c : Nat} (h : IRow lo w (.slice a n c) xs) : n ≤ c := by
  rcases h.2 with ⟨h1, h2⟩ | ⟨g, cp, cur, h1, _, _, h2, _⟩
  · simp only [Value.slice.injEq] at h1; omega
  · simp only [Value.slice.injEq] at h1; omega
/-- appending a list, be it empty, in a region that draws its order -/
theorem appIs {ops : Array Oper} {o : Oper} {a : Act} {K : Act → World → Prop} {Q : Exit → Act → World → Prop} {E : Prop} (w : World) (hgd : o.guard = none) (s x : Operand)
    (ho : o.op = .call { callee := .builtin .append, args := #[s, x], argTypes := #[22, 22] })
    (lo : Nat) (v : Value) (xs : List Int) (hs : a.eval s = v) (hown : IRow lo w v xs) (sv : Value) (ys : List Int) (hx : a.eval x = sv) (hy : Ints w sv ys)
    (hl : xs.length + ys.length ≤ 1099511627776) (hlo : lo ≤ w.heap.size)
    (h : ∀ v' w', IRow lo w' v' (xs ++ ys) → w.grownBy w' v.ownBlock → K (a.put o.dst v') w') : if Region.wanted o (yielded ops a.tmps) = true then Oper.wp Try.prog o a w K Q else E := by
  obtain ⟨ao, cap, rfl, h1, h2, h3⟩ := hy
  obtain ⟨i, hi, hz0, hz1, hz2⟩ := info_parts info_int
  obtain ⟨av, cv, rfl⟩ := hown.form
  by_cases hne : ys = []
  · subst hne
    have hw : Region.wanted o (yielded ops a.tmps) = true := by simp [Region.wanted, hgd]
    rw [if_pos hw]
    refine Lib.wp_append_run w s x 22 22 ho _ _ hs hx (.slice av xs.length cv) w ?_ (h _ _ (by simpa using hown) (World.grownBy.refl _ _))
    refine run_append_nothing w 22 22 _ 3 i Try.underlying22 hi av xs.length cv hown.cap_ _ ?_
    rcases ao with _ | ad
    · exact Src.ofNil w Try.underlying22 cap
    · exact Src.ofSlice w Try.underlying22 ad 0 cap [] (by simp) (by simp) (by simp)
  · have h0 : 0 < ys.length := List.length_pos_iff.2 hne
    obtain ⟨b, o', rfl, hc0⟩ := h3 0 h0
    have HN : ∀ j u, (ys.map (Value.int .i64))[j]? = some u → w.cell? ((⟨b, o', none⟩ : Addr).add j) = some u := fun j u hj => by
      have hjl : j < ys.length := by
        have := (List.getElem?_eq_some_iff.1 hj).1; simpa using this
      obtain ⟨b', o'', e, hc⟩ := h3 j hjl
      simp only [Option.some.injEq, Addr.mk.injEq, and_true] at e
      obtain ⟨rfl, rfl⟩ := e
      have hu : u = .int .i64 (ix ys j) := by
        have h5 : (ys.map (Value.int .i64))[j]? = some (.int .i64 (ix ys j)) := by simp [ix, List.getD, hjl]
        rw [h5] at hj; exact (Option.some.inj hj).symm
      subst hu
      by_cases ej : j = 0
      · subst ej; simpa [Addr.add] using hc
      · simpa [Addr.add, ej] using hc
    refine step_append_lies w hgd s x 22 ho lo 3 i _ 1 8 Try.underlying22 hi hz0 hz1 hz2 rfl (by decide) _ xs.length (xs.map (Value.int .i64)) hs hown ⟨b, o', none⟩ ys.length cap (ys.map (Value.int .i64)) hx (by simp) HN (by intro u hu; obtain ⟨x, _, rfl⟩ := List.mem_map.1 hu; rfl) h0 (by simp [maxLen]; omega) (by omega) hlo w.heap.size rfl ?_
    intro g cp w' hown' hgrow _ _
    refine h _ w' ?_ hgrow
    have : IRow lo w' (.slice (some ⟨g, 0, none⟩) (xs.length + ys.length) cp) (xs ++ ys) = w'.ownsRow lo 3 1 (.slice (some ⟨g, 0, none⟩) (xs.length + ys.length) cp) (xs.length + ys.length) (xs.map (Value.int .i64) ++ ys.map (Value.int .i64)) := by simp [IRow]
    rw [this]; exact hown'
/-- a slice of one int that has been written out -/
theorem IRow.one (w : World) (x : Int) : IRow w.heap.size (w.alloc (.cells #[.int .i64 x] 3)) (.slice (some ⟨w.heap.size, 0, none⟩) 1 1) [x] :=
  And.intro rfl (.inr ⟨w.heap.size, 1, #[.int .i64 x], rfl, Nat.le_refl _, Go.Deep.blk_alloc_new _ _, Nat.le_refl _, by simp [maxLen], rfl, rfl⟩)

/-! ### What the closure's variables hold -/
structure ChEnv (w0 : World) (n mb L Bm Bl Bg Bs Bc : Nat) (vl y1 vs : Value) (w : World) : Prop where
  ext : Ext w0 w
  m : Box w Bm 30 #[.slice (some ⟨mb, 0, none⟩) n n]
  l : Box w Bl 37 #[vl]
  g : Box w Bg 33 #[y1]
  s : Box w Bs 35 #[vs]
  c : Box w Bc 73 #[.func (.func 47) #[] #[.pointer (some ⟨Bm, 0, none⟩), .pointer (some ⟨Bl, 0, none⟩), .pointer (some ⟨Bg, 0, none⟩), .pointer (some ⟨Bs, 0, none⟩), .pointer (some ⟨Bc, 0, none⟩)]]
  lo : w0.heap.size ≤ mb
  hi : mb < L
  sz : L ≤ w.heap.size
  dm : Bm ≠ mb
  dl : Bl ≠ mb
  dg : Bg ≠ mb
  ds : Bs ≠ mb
  dc : Bc ≠ mb
theorem ChEnv.upd {w0 : World} {n mb L Bm Bl Bg Bs Bc : Nat} {vl y1 vs : Value} {w w' : World} (h : ChEnv w0 n mb L Bm Bl Bg Bs Bc vl y1 vs w) (u : Upd (fun b => b = mb) w w') : ChEnv w0 n mb L Bm Bl Bg Bs Bc vl y1 vs w' :=
  ⟨h.ext.of_upd u (fun b hb => by subst hb; exact h.lo), h.m.upd u h.dm, h.l.upd u h.dl, h.g.upd u h.dg, h.s.upd u h.ds, h.c.upd u h.dc, h.lo, h.hi, Nat.le_trans h.sz u.size, h.dm, h.dl, h.dg, h.ds, h.dc⟩
/-- the lists that have been found -/
def MemoOk (n : Nat) (lt : Nat → Nat → Bool) (mb L : Nat) (w : World) : Prop :=
  ∃ f : Nat → Value, w.rowIs mb 22 n f ∧ ∀ k, k < n → f k = .slice none 0 0 ∨ Own L w.heap.size w (f k) (chn n lt k)
theorem MemoOk.ext {n : Nat} {lt : Nat → Nat → Bool} {mb L : Nat} {w w' : World} (h : MemoOk n lt mb L w) (u : Ext w w') : MemoOk n lt mb L w' := by
  obtain ⟨f, hr, ho⟩ := h
  refine ⟨f, rowIs_ext hr u, fun k hk => ?_⟩
  rcases ho k hk with e | o
  · exact .inl e
  · exact .inr ((o.ext u).mono (Nat.le_refl _) u.size)
theorem MemoOk.put {n : Nat} {lt : Nat → Nat → Bool} {mb L : Nat} {w : World} (h : MemoOk n lt mb L w) {i : Nat} {v : Value} (hv : Own L w.heap.size w v (chn n lt i)) (hm : mb < L) : MemoOk n lt mb L (w.setCell ⟨mb, i, none⟩ v) := by
  obtain ⟨f, hr, ho⟩ := h
  refine ⟨fun j => if j = i then v else f j, (hr.set i v).congr (fun j hj => by by_cases e : j = i <;> simp [e]), fun k hk => ?_⟩
  have hs : (w.setCell ⟨mb, i, none⟩ v).heap.size = w.heap.size := by simp [World.setCell]
  show (if k = i then v else f k) = _ ∨ Own L _ _ (if k = i then v else f k) _
  rw [hs]
  by_cases e : k = i
  · rw [if_pos e]; subst e; exact .inr (hv.put_away _ _ (.inl hm))
  · rw [if_neg e]
    rcases ho k hk with e2 | o
    · exact .inl e2
    · exact .inr (o.put_away _ _ (.inl hm))
theorem MemoOk.has {n : Nat} {lt : Nat → Nat → Bool} {mb L : Nat} {w : World} (h : MemoOk n lt mb L w) {i : Nat} (hi : i < n) : w.frozen? ⟨mb, i, none⟩ = false ∧ ∃ u, w.cell? ⟨mb, i, none⟩ = some u := by
  obtain ⟨f, hr, ho⟩ := h
  exact ⟨hr.frozen i, _, hr.cell (i := i) hi⟩
theorem MemoOk.cell {n : Nat} {lt : Nat → Nat → Bool} {mb L : Nat} {w : World} (hs : Strict n lt) (h : MemoOk n lt mb L w) {i : Nat} (hi : i < n) : w.frozen? ⟨mb, i, none⟩ = false ∧
    (w.cell? ⟨mb, i, none⟩ = some (.slice none 0 0) ∨ ∃ b o k c, w.cell? ⟨mb, i, none⟩ = some (.slice (some ⟨b, o, none⟩) k c) ∧ Own L w.heap.size w (.slice (some ⟨b, o, none⟩) k c) (chn n lt i)) := by
  obtain ⟨f, hr, ho⟩ := h
  refine ⟨hr.frozen i, ?_⟩
  have hc := hr.cell (i := i) hi
  rcases ho i hi with e | o
  · rw [e] at hc; exact .inl hc
  · have o' := o
    obtain ⟨ao, cap, e, h1, h2, h3⟩ := o
    rcases h3 with h3 | ⟨g, o, c, rfl, _⟩
    · have := hgt_pos hs hi
      unfold hgt at this
      rw [h3] at this; simp at this
    · rw [e] at hc o'
      exact .inr ⟨_, _, _, _, hc, o'⟩
theorem bstB_len {n : Nat} {lt : Nat → Nat → Bool} (hs : Strict n lt) (i m : Nat) (hm : m ≤ n) : (bstB n lt i m).length ≤ n := by
  rcases (bst_spec (p := fun k => lt k i) (f := chn n lt) m).2 with h | ⟨k, hk, _, h, _⟩
  · unfold bstB; rw [h]; simp
  · unfold bstB; rw [h]; exact hgt_len hs (by omega)

set_option maxRecDepth 100000 in
set_option maxHeartbeats 6400000 in
theorem chain_c (T : Ge) (s : List Vr) (l : List Ta) (w0 : World) (n : Nat) (LT : Nat → Nat → Bool) (mb L Bm Bl Bg Bs Bc : Nat) (y1 vs : Value) (a3 : Option Addr) (c3 : Nat)
    (R1 : Hid (GeR w0 (.agg #[y1]) T)) (R2 : Hid (Vrs w0 vs s)) (G3 : Hid (TabsA w0 a3 l)) (HPP : Hid (PlanP T.par s l)) (HST : Hid (Strict n LT)) (HLT : Hid (ltL T.par s l = LT)) (HN : Hid (l.length = n)) (h20 : n ≤ 20) (e1 : n ≤ c3) (e2 : c3 ≤ 9223372036854775807) :
    ∀ (d i : Nat) (w : World), i < n → below n LT i < d → ChEnv w0 n mb L Bm Bl Bg Bs Bc (.slice a3 n c3) y1 vs w → MemoOk n LT mb L w →
    Calls Try.prog 47 #[.int .i64 i, .pointer (some ⟨Bm, 0, none⟩), .pointer (some ⟨Bl, 0, none⟩), .pointer (some ⟨Bg, 0, none⟩), .pointer (some ⟨Bs, 0, none⟩), .pointer (some ⟨Bc, 0, none⟩)] w fun e w' => ∃ v', e = .returned v' ∧ Own L w'.heap.size w' v' (chn n LT i) ∧ MemoOk n LT mb L w' ∧ Upd (fun b => b = mb) w w' := by
  intro d
  induction d with
  | zero => intro i w hi hd; omega
  | succ d ih =>
    intro i w hi hd hE hM
    have HIH := Lib.hid ih; clear ih
    have HBL : Hid (below n LT i < d + 1) := Lib.hid hd
    clear hd
    have HE := Lib.hid hE
    have HM := Lib.hid hM
    have q22 : ∀ (w : World) (a : Option Addr) (n c : Nat), (binOp .eql 22 (.slice a n c) (.slice none 0 0)).run Try.prog w = .ok (.bool a.isNone) w := fun w a n c => Go.Lib.run_eql_slice_nil w _ _ a n c 0 0 Try.underlying22
    have km := hE.m.cell 0 (by simp)
    obtain ⟨_, hci⟩ := hM.cell HST.out hi
    rcases hci with hci | ⟨b, o, k, c, hci, hown⟩
    · have kl := hE.l.cell 0 (by simp)
      clear hE hM
      go_enter Try.func47, Try.ntmps47
      go_wp2
      clear q22
      -- BEGIN cut loop
      go_loopw [8, 19] (fun b k wr => ∃ m : Nat, m ≤ n ∧ k = .int .i64 m ∧ Own L wr.heap.size wr b (bstB n LT i m) ∧ MemoOk n LT mb L wr ∧ Upd (fun b => b = mb) w wr) (fun _ k _ => n - (intOf k).toNat)
      case atStart => exact ⟨0, Nat.zero_le _, rfl, Own.nil, HM.out, Upd.refl _⟩
      case round =>
        clear km hci kl
        obtain ⟨m, hm, rfl, hob, hmo, hu⟩ := hrel
        obtain ⟨wi, rfl⟩ : ∃ wi : World, wi = wr := ⟨_, rfl⟩
        have hEi := HE.out.upd hu
        have HEI := Lib.hid hEi
        have HU := Lib.hid hu; clear hu
        have HMI := Lib.hid hmo; clear hmo
        have HOB := Lib.hid hob
        have hbl := bstB_len HST.out i m hm
        obtain ⟨bo, bc, rfl, p1, p2, p3⟩ := hob
        clear p3
        obtain ⟨LB, hLB⟩ : ∃ L, (bstB n LT i m).length = L := ⟨_, rfl⟩
        rw [hLB] at p1 hbl HOB ⊢
        have HLB := Lib.hid hLB; clear hLB
        have hsL := hEi.sz
        have hmL := hEi.hi
        by_cases hlt2 : m < n
        · have hlt1 : i < n := hi
          have hx := hEi.ext
          have km := hEi.m.cell 0 (by simp)
          have kl := hEi.l.cell 0 (by simp)
          have kg := hEi.g.cell 0 (by simp)
          have ks := hEi.s.cell 0 (by simp)
          obtain ⟨b1_, o1_, x11, m11, y11, x12, m12, y12, rfl, q10, q11, q12, q13, RK1⟩ := (G3.out).elt (k := i) (by rw [HN.out]; exact hlt1)
          have RT1 := Lib.hid RK1; clear RK1
          have HT1 := Lib.hid (HPP.out.2.2.2 i (by rw [HN.out]; exact hlt1))
          obtain ⟨t1, ht1⟩ : ∃ t, taAt l i = t := ⟨_, rfl⟩
          rw [ht1] at q10 q13 RT1 HT1
          have HE1 := Lib.hid ht1; clear ht1
          obtain ⟨A1, hA1⟩ : ∃ A, t1.level = A := ⟨_, rfl⟩
          obtain ⟨B1, hB1⟩ : ∃ A, t1.sum = A := ⟨_, rfl⟩
          rw [hA1] at q10 RT1
          rw [hB1] at q13 RT1
          clear hA1 hB1
          obtain ⟨b2_, o2_, x21, m21, y21, x22, m22, y22, eq2, q20, q21, q22, q23, RK2⟩ := (G3.out).elt (k := m) (by rw [HN.out]; exact hlt2)
          simp only [Option.some.injEq, Addr.mk.injEq, and_true] at eq2
          obtain ⟨rfl, rfl⟩ := eq2
          have RT2 := Lib.hid RK2; clear RK2
          have HT2 := Lib.hid (HPP.out.2.2.2 m (by rw [HN.out]; exact hlt2))
          obtain ⟨t2, ht2⟩ : ∃ t, taAt l m = t := ⟨_, rfl⟩
          rw [ht2] at q20 q23 RT2 HT2
          have HE2 := Lib.hid ht2; clear ht2
          obtain ⟨A2, hA2⟩ : ∃ A, t2.level = A := ⟨_, rfl⟩
          obtain ⟨B2, hB2⟩ : ∃ A, t2.sum = A := ⟨_, rfl⟩
          rw [hA2] at q20 RT2
          rw [hB2] at q23 RT2
          clear hA2 hB2
          have d20 := Ext.cell hx q20
          have d21 := Ext.cell hx q21
          have d22 := Ext.cell hx q22
          have d23 := Ext.cell hx q23
          clear q20 q21 q22 q23
          have bx := Box.new wi 56 #[.int .i64 A2, .slice x21 m21 y21, .slice x22 m22 y22, .int .i64 B2] rfl
          have ux := (Ext.refl wi).alloc (.cells #[.int .i64 A2, .slice x21 m21 y21, .slice x22 m22 y22, .int .i64 B2] 56)
          have HTT : Hid (LT m i = ltT T.par s t2 t1) := Lib.hid (by rw [← HLT.out]; unfold ltL; rw [HE1.out, HE2.out])
          have HBS : Hid (bstB n LT i (m + 1) = if LT m i = true ∧ LB < (chn n LT m).length then chn n LT m else bstB n LT i m) := Lib.hid (by rw [← HLB.out]; rfl)
          go_upto_region 6 with fail
          clear d20 d21 d22 d23 km
          obtain ⟨wb, hwb⟩ : ∃ wb, wb = wi.alloc (.cells #[.int .i64 A2, .slice x21 m21 y21, .slice x22 m22 y22, .int .i64 B2] 56) := ⟨_, rfl⟩
          rw [← hwb] at bx ux ⊢
          have hsb : Hid (wb.heap.size = wi.heap.size + 1) := Lib.hid (by rw [hwb]; simp)
          clear hwb
          have hEb := hEi.upd ux.upd
          have HEB := Lib.hid hEb
          have hxb := hx.trans ux
          have F10 : ∀ z : ExtOf wb, z.w.cell? ⟨b1_, o1_ + i * 4, none⟩ = some (.int .i64 A1) := fun z => Ext.cell (hxb.trans z.ext) q10
          have F11 : ∀ z : ExtOf wb, z.w.cell? ⟨b1_, o1_ + i * 4 + 1, none⟩ = some (.slice x11 m11 y11) := fun z => Ext.cell (hxb.trans z.ext) q11
          have F12 : ∀ z : ExtOf wb, z.w.cell? ⟨b1_, o1_ + i * 4 + 2, none⟩ = some (.slice x12 m12 y12) := fun z => Ext.cell (hxb.trans z.ext) q12
          have F13 : ∀ z : ExtOf wb, z.w.cell? ⟨b1_, o1_ + i * 4 + 3, none⟩ = some (.int .i64 B1) := fun z => Ext.cell (hxb.trans z.ext) q13
          clear q10 q11 q12 q13
          have Fm : ∀ z : ExtOf wb, z.w.cell? ⟨Bm, 0, none⟩ = some (.slice (some ⟨mb, 0, none⟩) n n) := fun z => (hEb.m.ext z.ext).cell 0 (by simp)
          have Fl : ∀ z : ExtOf wb, z.w.cell? ⟨Bl, 0, none⟩ = some (.slice (some ⟨b1_, o1_, none⟩) n c3) := fun z => (hEb.l.ext z.ext).cell 0 (by simp)
          have Fg : ∀ z : ExtOf wb, z.w.cell? ⟨Bg, 0, none⟩ = some y1 := fun z => (hEb.g.ext z.ext).cell 0 (by simp)
          have Fs : ∀ z : ExtOf wb, z.w.cell? ⟨Bs, 0, none⟩ = some vs := fun z => (hEb.s.ext z.ext).cell 0 (by simp)
          have Ft0 : ∀ z : ExtOf wb, z.w.cell? ⟨wi.heap.size, 0, none⟩ = some (.int .i64 A2) := fun z => (bx.ext z.ext).cell 0 (by simp)
          have Ft1 : ∀ z : ExtOf wb, z.w.cell? ⟨wi.heap.size, 1, none⟩ = some (.slice x21 m21 y21) := fun z => (bx.ext z.ext).cell 1 (by simp)
          have Ft2 : ∀ z : ExtOf wb, z.w.cell? ⟨wi.heap.size, 2, none⟩ = some (.slice x22 m22 y22) := fun z => (bx.ext z.ext).cell 2 (by simp)
          have Ft3 : ∀ z : ExtOf wb, z.w.cell? ⟨wi.heap.size, 3, none⟩ = some (.int .i64 B2) := fun z => (bx.ext z.ext).cell 3 (by simp)
          obtain ⟨E1, hE1⟩ : ∃ E, folB T.par s t2 t1 = E := ⟨_, rfl⟩
          obtain ⟨E2, hE2⟩ : ∃ E, folB T.par s t1 t2 = E := ⟨_, rfl⟩
          have HLE : Hid (LT m i = (E1 && !E2)) := Lib.hid (by rw [HTT.out]; unfold ltT; rw [hE1, hE2])
          have HF1 := Lib.hid hE1; clear hE1
          have HF2 := Lib.hid hE2; clear hE2
          have HC1 : Hid (∀ z : ExtOf wb, Calls Try.prog 41 #[.agg #[y1], vs, .agg #[.int .i64 A2, .slice x21 m21 y21, .slice x22 m22 y22, .int .i64 B2], .agg #[.int .i64 A1, .slice x11 m11 y11, .slice x12 m12 y12, .int .i64 B1]] z.w fun e w' => e = .returned (.bool E1) ∧ Ext z.w w') := Lib.hid (fun z =>
            followsFrom_b E1 _ _ _ _ T s t2 t1 _ HF1.out (R1.out.ext (hxb.trans z.ext)) (R2.out.ext (hxb.trans z.ext)) (RT2.out.ext (hxb.trans z.ext)) (RT1.out.ext (hxb.trans z.ext)) HPP.out.1 HPP.out.2.1 HT2.out HT1.out)
          have HC2 : Hid (∀ z : ExtOf wb, Calls Try.prog 41 #[.agg #[y1], vs, .agg #[.int .i64 A1, .slice x11 m11 y11, .slice x12 m12 y12, .int .i64 B1], .agg #[.int .i64 A2, .slice x21 m21 y21, .slice x22 m22 y22, .int .i64 B2]] z.w fun e w' => e = .returned (.bool E2) ∧ Ext z.w w') := Lib.hid (fun z =>
            followsFrom_b E2 _ _ _ _ T s t1 t2 _ HF2.out (R1.out.ext (hxb.trans z.ext)) (R2.out.ext (hxb.trans z.ext)) (RT1.out.ext (hxb.trans z.ext)) (RT2.out.ext (hxb.trans z.ext)) HPP.out.1 HPP.out.2.1 HT1.out HT2.out)
          have HX := Lib.hid hx; clear hx
          have HXB := Lib.hid hxb; clear hxb
          have HUX := Lib.hid ux; clear ux
          clear hEb hEi bx kl kg ks

          cases E1
          · -- BEGIN cut no
            refine wp_region_quiet_ext (by kernel_rfl) (by kernel_rfl) ?_
            repeat (go_big_quiet_step ((go_at_call 41; with_reducible first | exact calls_ext (HC1.out _) | exact calls_ext (HC2.out _))))
            refine wpQuiet_nil ?_
            intro ws hw'
            obtain ⟨⟨wz, us⟩, hw''⟩ := hw'
            subst hw''
            clear Fm Fl Fg Fs Ft0 Ft1 Ft2 Ft3 F10 F11 F12 F13
            go_wp2
            go_roundw
            case rel => exact ⟨m + 1, by omega, by go_num, by rw [HBS.out, HLE.out, if_neg (by simp)]; exact (HOB.out.ext (HUX.out.trans us)).mono (Nat.le_refl _) (HUX.out.trans us).size, HMI.out.ext (HUX.out.trans us), HU.out.trans (HUX.out.trans us).upd⟩
            case measure => simp [intOf]; omega
            -- END cut no
          · cases E2
            · -- BEGIN cut yes
              refine wp_region_quiet_ext (by kernel_rfl) (by kernel_rfl) ?_
              repeat (go_big_quiet_step ((go_at_call 41; with_reducible first | exact calls_ext (HC1.out _) | exact calls_ext (HC2.out _))))
              refine wpQuiet_nil ?_
              intro ws hw'
              obtain ⟨⟨wz, us⟩, hw''⟩ := hw'
              subst hw''
              clear Fm Fl Fg Fs Ft0 Ft1 Ft2 Ft3 F10 F11 F12 F13
              have HEW := Lib.hid (HEB.out.upd us.upd)
              have kc := HEW.out.c.cell 0 (by simp)
              have hus := HUX.out.size
              have hus2 := us.size
              go_wp2_with fail
              refine (HIH.out m _ hlt2 (by have h1 := below_lt HST.out hlt2 hi (by rw [HLE.out]; rfl); have h2 := HBL.out; omega) HEW.out (HMI.out.ext (HUX.out.trans us))).mono ?_
              rintro e w2 ⟨v', rfl, ho2, hm2, hu2⟩
              have HO2 := Lib.hid ho2
              have HM2 := Lib.hid hm2; clear hm2
              have hus3 := hu2.size
              have HU2 := Lib.hid hu2; clear hu2
              obtain ⟨co, cc, rfl, p21, p22, p23⟩ := ho2
              clear p23
              have hgl := hgt_len HST.out hlt2
              unfold hgt at hgl
              obtain ⟨H, hH⟩ : ∃ H, (chn n LT m).length = H := ⟨_, rfl⟩
              rw [hH] at p21 HBS hgl ⊢
              have HH := Lib.hid hH; clear hH
              by_cases hlh : LB < H
              · go_wp2
                go_roundw
                case rel => exact ⟨m + 1, by omega, by go_num, by rw [HBS.out, HLE.out, if_pos ⟨rfl, hlh⟩, ← HH.out]; exact HO2.out, HM2.out, (HU.out.trans (HUX.out.trans us).upd).trans HU2.out⟩
                case measure => simp [intOf]; omega
              · have HOB2 := Lib.hid (((HOB.out.ext (HUX.out.trans us)).away HU2.out (fun b hb => .inl (by subst hb; exact hmL))).mono (Nat.le_refl L) (Nat.le_trans (HUX.out.trans us).size hus3))
                go_wp2
                go_roundw
                case rel => exact ⟨m + 1, by omega, by go_num, by rw [HBS.out, if_neg (fun h => hlh h.2)]; exact HOB2.out, HM2.out, (HU.out.trans (HUX.out.trans us).upd).trans HU2.out⟩
                case measure => simp [intOf]; omega
              -- END cut yes
            · -- BEGIN cut both
              refine wp_region_quiet_ext (by kernel_rfl) (by kernel_rfl) ?_
              repeat (go_big_quiet_step ((go_at_call 41; with_reducible first | exact calls_ext (HC1.out _) | exact calls_ext (HC2.out _))))
              refine wpQuiet_nil ?_
              intro ws hw'
              obtain ⟨⟨wz, us⟩, hw''⟩ := hw'
              subst hw''
              clear Fm Fl Fg Fs Ft0 Ft1 Ft2 Ft3 F10 F11 F12 F13
              go_wp2
              go_roundw
              case rel => exact ⟨m + 1, by omega, by go_num, by rw [HBS.out, HLE.out, if_neg (by simp)]; exact (HOB.out.ext (HUX.out.trans us)).mono (Nat.le_refl _) (HUX.out.trans us).size, HMI.out.ext (HUX.out.trans us), HU.out.trans (HUX.out.trans us).upd⟩
              case measure => simp [intOf]; omega
              -- END cut both
        · have hml : m = n := by omega
          have HOB2 := Lib.hid (show Own L wi.heap.size wi (.slice bo LB bc) (bstB n LT i n) from by have h := HOB.out; rw [hml] at h; exact h)
          clear hml HOB
          have km := hEi.m.cell 0 (by simp)
          have hdm := hEi.dm
          have HX := Lib.hid hEi.ext
          have HEM := Lib.hid hEi.m
          clear hEi
          have hbn := bstB_len HST.out i n (Nat.le_refl _)
          -- BEGIN cut end
          have km2 := Ext.cell ((Ext.refl wi).alloc (.cells #[.int .i64 i] 3)) km
          go_wp2_with fail
          go_region_law (first
            | (refine appIs _ (by rfl) _ _ (by rfl) wi.heap.size _ [(i : Int)] (by rfl) (IRow.one wi.drew (i : Int)) _ (bstB n LT i n) (by rfl) ((HOB2.out.ints).ext ((Ext.refl wi).drew.alloc _)) (by simp; omega) (by simp) ?_; intro v3 w3 hrow0 hgrow
               have E1 := (Ext.refl wi).drew.alloc (.cells #[.int .i64 i] 3)
               have X3 := (IRow.one wi.drew (i : Int)).grew E1 (Nat.le_refl _) hgrow
               have hrow : IRow wi.heap.size w3 v3 (chn n LT i) := by rw [chn_eq HST.out hi]; exact hrow0
               clear hrow0 hgrow E1
               have km3 := (HEM.out.ext X3).cell 0 (by simp)
               have HM3 := Lib.hid (HMI.out.ext X3)
               obtain ⟨fz, u3, k3⟩ := HM3.out.has hi
               have HR3 := Lib.hid hrow
               obtain ⟨a4, c4, rfl⟩ := hrow.form
               clear hrow
               have hs3 := X3.size
               have HX3 := Lib.hid X3; clear X3))
          all_goals
            have HO3 : Hid (Own L w3.heap.size w3 (.slice a4 (chn n LT i).length c4) (chn n LT i)) := Lib.hid ((HR3.out.own (Nat.le_refl _)).mono (by omega) (Nat.le_refl _))
            go_wp2
            go_ret
            exact ⟨_, rfl, (HO3.out.put_away _ _ (.inl hmL)).mono (Nat.le_refl _) (by simp [World.setCell]), HM3.out.put HO3.out hmL, (HU.out.trans HX3.out.upd).setCell _ (fun _ => rfl)⟩
          -- END cut end
      -- END cut loop
    · clear hE hM
      go_enter Try.func47, Try.ntmps47
      go_wp2
      go_ret
      exact ⟨_, rfl, hown, HM.out, Upd.refl _⟩
end Go.Proofs.Ytolmmhdeebgglaa
