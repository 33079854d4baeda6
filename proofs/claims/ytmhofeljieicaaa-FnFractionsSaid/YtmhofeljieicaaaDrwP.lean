/- The drawing cursor l1Cur: pick, among, frac, anyFrac, DrawAddFrac, DrawDivFrac. -/
import Derived.Test.YtmhofeljieicaaaDrwI
namespace Go.Proofs.Ytmhofeljieicaaa
open Go.RowKit

theorem UB.ext {B : Nat} {w w' w'' : World} (h : Upd (fun z => z = B) w w') (u : Ext w' w'') : Upd (fun z => z = B) w w'' := h.trans (u.upd (S := fun z => z = B))
theorem UB.pre {B : Nat} {w w' w'' : World} (u : Ext w w') (h : Upd (fun z => z = B) w' w'') : Upd (fun z => z = B) w w'' := (u.upd (S := fun z => z = B)).trans h
theorem Cur.put {lo B : Nat} {w : World} (h : Cur lo B w) {a : Addr} (ha : B < a.block) (x : Value) : Cur lo B (w.setCell a x) := by
  obtain ⟨ao, cap, xs, at', s, w0, h1, h2, h3, h4, h5, h6, h7, h8, h9, h10⟩ := h
  exact ⟨ao, cap, xs, at', s, w0, h1, h2, h3, h4, h5, h6, h7.setCell _ (fun hl => by omega), h8, h9, h10.setOther (by omega) _⟩
set_option maxHeartbeats 800000 in
theorem pick_c (n : Int) (lo B : Nat) (w : World) (h : Cur lo B w) (hlo : lo ≤ 1000000) (hn : 2 ≤ n ∧ n ≤ 200) :
    Calls Try.prog 33 #[.pointer (some ⟨B, 0, none⟩), .int .i64 n] w fun e w' => (∃ x : Int, e = .returned (.int .i64 x) ∧ 0 ≤ x ∧ x < n) ∧ Cur (lo + 1) B w' ∧ Upd (fun z => z = B) w w' := by
  have H := Lib.hid h; clear h
  have hn1 : decide (n ≤ 1) = false := decide_eq_false (by omega)
  have hn2 : decide (200 < n) = false := decide_eq_false (by omega)
  have hn3 : n ≠ 0 := by omega
  go_enter Try.func33, Try.ntmps33
  go_wp2_with fail
  refine (next_c lo B _ H.out hlo).mono ?_
  rintro e w1 ⟨⟨x, rfl, x0, x1⟩, hc, hu⟩
  have HC := Lib.hid hc; clear hc
  have hq1 := Int.emod_nonneg x hn3
  have hq2 := Int.emod_lt_of_pos x (b := n) (by omega)
  have hq3 : x.tmod n = x % n := Int.tmod_eq_emod_of_nonneg x0
  have hw := IntWalk.i64_in (x % n) (by omega)
  go_wp2
  go_ret
  exact ⟨⟨_, rfl, hq1, hq2⟩, HC.out, hu⟩
set_option maxHeartbeats 800000 in
theorem among_c (v : Value) (xs : List Int) (lo B : Nat) (w : World) (h : Cur lo B w) (hlo : lo ≤ 1000000) (hv : Ints w v xs) (hl : 2 ≤ xs.length ∧ xs.length ≤ 200) (hb : blk v ≠ B) :
    Calls Try.prog 34 #[.pointer (some ⟨B, 0, none⟩), v] w fun e w' => (∃ x : Int, e = .returned (.int .i64 x)) ∧ Cur (lo + 1) B w' ∧ Upd (fun z => z = B) w w' := by
  have H := Lib.hid h; clear h
  have HV := Lib.hid hv
  obtain ⟨ao, cap, rfl, h1, h2, h3⟩ := hv
  clear h3
  go_enter Try.func34, Try.ntmps34
  go_wp2_with fail
  refine (pick_c (xs.length : Int) lo B _ H.out hlo (by omega)).mono ?_
  rintro e w1 ⟨⟨x, rfl, x0, x1⟩, hc, hu⟩
  have HC := Lib.hid hc; clear hc
  have hv1 := HV.out.upd hu (fun _ => hb)
  obtain ⟨ao', cap', he, _, _, h3⟩ := hv1
  cases he
  obtain ⟨X, rfl⟩ : ∃ X : Nat, x = X := ⟨x.toNat, by omega⟩
  have hX : X < xs.length := by omega
  obtain ⟨b, o, rfl, hcl⟩ := h3 X hX
  go_wp2
  go_ret
  exact ⟨⟨_, rfl⟩, HC.out, hu⟩
set_option maxHeartbeats 800000 in
theorem frac_c (lo B : Nat) (w : World) (h : Cur lo B w) (hlo : lo ≤ 900000) :
    Calls Try.prog 35 #[.pointer (some ⟨B, 0, none⟩)] w fun e w' => (∃ n d : Int, e = .returned (.agg #[.int .i64 n, .int .i64 d])) ∧ Cur (lo + 2) B w' ∧ Upd (fun z => z = B) w w' := by
  have u0 := (Ext.refl w).alloc (.cells #[.int .i64 0, .int .i64 0] 24)
  have r0 := Box.new w 24 #[.int .i64 0, .int .i64 0] rfl
  have hB : B < w.heap.size := by obtain ⟨ao, cap, xs, a, s, w0, h1, h2, h3, h4, h5, h6, h7, h8, h9, hb⟩ := h; exact hb.lt
  have H := Lib.hid (h.ext u0); clear h
  go_enter Try.func35, Try.ntmps35
  go_wp2_with fail
  refine (pick_c 41 lo B _ H.out (by omega) (by omega)).mono ?_
  rintro e w1 ⟨⟨x, rfl, x0, x1⟩, hc, hu⟩
  have HC := Lib.hid hc; clear hc
  have hw1 := IntWalk.i64_in (x - 20) (by omega)
  go_wp2_with fail
  refine (pick_c 12 (lo + 1) B _ HC.out (by omega) (by omega)).mono ?_
  rintro e w2 ⟨⟨y, rfl, y0, y1⟩, hc2, hu2⟩
  have HC2 := Lib.hid hc2; clear hc2
  have hw2 := IntWalk.i64_in (1 + y) (by omega)
  go_wp2_with fail
  refine (fMake_c (x - 20) (1 + y) _ (by omega) (by unfold InR; omega) (by unfold InR; omega)).mono ?_
  rintro e w3 ⟨rfl, u3⟩
  obtain ⟨N, hN⟩ : ∃ N, fVN (x - 20) (1 + y) = N := ⟨_, rfl⟩
  obtain ⟨D, hD⟩ : ∃ D, fVD (x - 20) (1 + y) = D := ⟨_, rfl⟩
  simp only [hN, hD]
  have r3 := (((r0.upd hu (by omega)).upd hu2 (by omega)).ext u3).alloc (.cells #[.int .i64 N, .int .i64 D] 24)
  have f0 := r3.free 0
  have f1 := r3.free 1
  have e0 := r3.cell 0 (by simp)
  have e1 := r3.cell 1 (by simp)
  have p0 := (Box.new w3 24 #[.int .i64 N, .int .i64 D] rfl).cell 0 (by simp)
  have p1 := (Box.new w3 24 #[.int .i64 N, .int .i64 D] rfl).cell 1 (by simp)
  have hq := UB.ext ((UB.pre u0 hu).trans hu2) (u3.alloc (.cells #[.int .i64 N, .int .i64 D] 24))
  have c3 := HC2.out.ext (u3.alloc (.cells #[.int .i64 N, .int .i64 D] 24))
  have hp := put2 r3 (.int .i64 N) (.int .i64 D)
  have k0 := hp.1.cell 0 (by simp)
  have k1 := hp.1.cell 1 (by simp)
  go_wp2
  refine bodyPost_ret (v := .agg #[.int .i64 N, .int .i64 D]) (by simp [results, Try.results35, go_sem, k0, k1]) rfl ⟨⟨N, D, rfl⟩, ?_, ?_⟩
  · exact (c3.put (by simp; omega) _).put (by simp; omega) _
  · exact (hq.setCell _ (fun h => by simp at h)).setCell _ (fun h => by simp at h)
theorem lit_ints (w : World) (T : TypeId) (xs : List Int) (vs : Array Value) (hv : vs = (xs.map (Value.int .i64)).toArray) (hn : xs.length ≤ 100) :
    Ints (w.alloc (.cells vs T)) (.slice (some ⟨w.heap.size, 0, none⟩) xs.length xs.length) xs := by
  refine ⟨_, _, rfl, Nat.le_refl _, by omega, fun k hk => ⟨_, _, rfl, ?_⟩⟩
  have := (Box.new w T vs rfl).cell k (by rw [hv]; simpa using hk)
  rw [Nat.zero_add, this, Option.some.injEq]
  subst hv
  simp [ix, List.getD, hk]
theorem retFrac {w : World} {B R : Nat} {lo : Nat} {x0 x1 n d : Value} (h : Box w R 24 #[x0, x1]) (hc : Cur lo B w) (hB : B < R) :
    Box ((w.setCell ⟨R, 0, none⟩ n).setCell ⟨R, 1, none⟩ d) R 24 #[n, d] ∧ Cur lo B ((w.setCell ⟨R, 0, none⟩ n).setCell ⟨R, 1, none⟩ d) :=
  ⟨(put2 h n d).1, (hc.put hB _).put hB _⟩
set_option maxHeartbeats 1600000 in
theorem anyFrac_c (lo B : Nat) (w : World) (h : Cur lo B w) (hlo : lo ≤ 800000) :
    Calls Try.prog 19 #[.pointer (some ⟨B, 0, none⟩)] w fun e w' => (∃ n d : Int, e = .returned (.agg #[.int .i64 n, .int .i64 d])) ∧ Cur (lo + 3) B w' ∧ Upd (fun z => z = B) w w' := by
  have u0 := (Ext.refl w).alloc (.cells #[.int .i64 0, .int .i64 0] 24)
  have r0 := Box.new w 24 #[.int .i64 0, .int .i64 0] rfl
  have hB : B < w.heap.size := by obtain ⟨ao, cap, xs, a, s, w0, h1, h2, h3, h4, h5, h6, h7, h8, h9, hb⟩ := h; exact hb.lt
  have H := Lib.hid (h.ext u0); clear h
  go_enter Try.func19, Try.ntmps19
  go_wp2_with fail
  refine (pick_c 16 lo B _ H.out (by omega) (by omega)).mono ?_
  rintro e w1 ⟨⟨x, rfl, x0, x1⟩, hc, hu⟩
  have HC := Lib.hid hc; clear hc
  have r1 := r0.upd hu (by omega)
  have v1 := UB.pre u0 hu
  have s1 := v1.size
  clear u0 r0 H hu
  obtain ⟨wa, hwa⟩ : ∃ wa : World, wa = w1 := ⟨_, rfl⟩
  subst hwa
  by_cases hx0 : x = 0
  · subst hx0
    go_wp2_with fail
    have L1 := lit_ints wa 3 [1000000000, (-1000000000), 999999999, 1000000001] #[.int .i64 1000000000, .int .i64 (-1000000000), .int .i64 999999999, .int .i64 1000000001] rfl (by simp)
    have c1 := HC.out.ext ((Ext.refl wa).alloc (.cells #[.int .i64 1000000000, .int .i64 (-1000000000), .int .i64 999999999, .int .i64 1000000001] 3))
    have g1 := UB.ext v1 ((Ext.refl wa).alloc (.cells #[.int .i64 1000000000, .int .i64 (-1000000000), .int .i64 999999999, .int .i64 1000000001] 3))
    have q1 := r1.alloc (.cells #[.int .i64 1000000000, .int .i64 (-1000000000), .int .i64 999999999, .int .i64 1000000001] 3)
    refine (among_c _ _ (lo + 1) B _ c1 (by omega) L1 (by simp) (by simp [blk, ablk]; omega)).mono ?_
    rintro e w2 ⟨⟨y, rfl⟩, hc2, hu2⟩
    have HC2 := Lib.hid hc2; clear hc2
    have r2 := q1.upd hu2 (by omega)
    have v2 := g1.trans hu2
    have s2 := v2.size
    clear L1 c1 g1 q1 hu2
    obtain ⟨wb, hwb⟩ : ∃ wb : World, wb = w2 := ⟨_, rfl⟩
    subst hwb
    go_wp2_with fail
    have L2 := lit_ints wb 3 [1, 7, 999999999, 999999937] #[.int .i64 1, .int .i64 7, .int .i64 999999999, .int .i64 999999937] rfl (by simp)
    have c2 := HC2.out.ext ((Ext.refl wb).alloc (.cells #[.int .i64 1, .int .i64 7, .int .i64 999999999, .int .i64 999999937] 3))
    have g2 := UB.ext v2 ((Ext.refl wb).alloc (.cells #[.int .i64 1, .int .i64 7, .int .i64 999999999, .int .i64 999999937] 3))
    have q2 := r2.alloc (.cells #[.int .i64 1, .int .i64 7, .int .i64 999999999, .int .i64 999999937] 3)
    refine (among_c _ _ (lo + 2) B _ c2 (by omega) L2 (by simp) (by simp [blk, ablk]; omega)).mono ?_
    rintro e w3 ⟨⟨z, rfl⟩, hc3, hu3⟩
    have HC3 := Lib.hid hc3; clear hc3
    have r3 := q2.upd hu3 (by omega)
    have hq := g2.trans hu3
    have f0 := r3.free 0
    have f1 := r3.free 1
    have e0 := r3.cell 0 (by simp)
    have e1 := r3.cell 1 (by simp)
    have hp := retFrac (n := .int .i64 y) (d := .int .i64 z) r3 HC3.out hB
    have k0 := hp.1.cell 0 (by simp)
    have k1 := hp.1.cell 1 (by simp)
    clear L2 c2 g2 q2 hu3
    go_wp2
    refine bodyPost_ret (v := .agg #[.int .i64 y, .int .i64 z]) (by simp [results, Try.results19, go_sem, k0, k1]) rfl ⟨⟨_, _, rfl⟩, hp.2, ?_⟩
    exact (hq.setCell _ (fun h => by simp at h)).setCell _ (fun h => by simp at h)
  have hb0 : (x == 0) = false := by simp [hx0]
  by_cases hx1 : x = 1
  · subst hx1
    go_wp2_with fail
    refine (pick_c 9 (lo + 1) B _ HC.out (by omega) (by omega)).mono ?_
    rintro e w2 ⟨⟨y, rfl, y0, y1⟩, hc2, hu2⟩
    have HC2 := Lib.hid hc2; clear hc2
    have hw2 := IntWalk.i64_in (y - 4) (by omega)
    go_wp2_with fail
    refine (pick_c 7 (lo + 2) B _ HC2.out (by omega) (by omega)).mono ?_
    rintro e w3 ⟨⟨z, rfl, z0, z1⟩, hc3, hu3⟩
    have HC3 := Lib.hid hc3; clear hc3
    have hw3 := IntWalk.i64_in (z - 1) (by omega)
    have r3 := (r1.upd hu2 (by omega)).upd hu3 (by omega)
    have f0 := r3.free 0
    have f1 := r3.free 1
    have e0 := r3.cell 0 (by simp)
    have e1 := r3.cell 1 (by simp)
    have hp := retFrac (n := .int .i64 (y - 4)) (d := .int .i64 (z - 1)) r3 HC3.out hB
    have k0 := hp.1.cell 0 (by simp)
    have k1 := hp.1.cell 1 (by simp)
    have hq := (v1.trans hu2).trans hu3
    go_wp2
    refine bodyPost_ret (v := .agg #[.int .i64 (y - 4), .int .i64 (z - 1)]) (by simp [results, Try.results19, go_sem, k0, k1]) rfl ⟨⟨_, _, rfl⟩, hp.2, ?_⟩
    exact (hq.setCell _ (fun h => by simp at h)).setCell _ (fun h => by simp at h)
  have hb1 : (x == 1) = false := by simp [hx1]
  by_cases hx2 : x = 2
  · subst hx2
    go_wp2_with fail
    refine (pick_c 3 (lo + 1) B _ HC.out (by omega) (by omega)).mono ?_
    rintro e w2 ⟨⟨y, rfl, y0, y1⟩, hc2, hu2⟩
    have HC2 := Lib.hid hc2; clear hc2
    have v2 := v1.trans hu2
    have r2 := r1.upd hu2 (by omega)
    have s2 := v2.size
    clear hu2
    obtain ⟨wb, hwb⟩ : ∃ wb : World, wb = w2 := ⟨_, rfl⟩
    subst hwb
    go_wp2_with fail
    have L2 := lit_ints wb 3 [1000000000, 1000000001, 999999937] #[.int .i64 1000000000, .int .i64 1000000001, .int .i64 999999937] rfl (by simp)
    have c2 := HC2.out.ext ((Ext.refl wb).alloc (.cells #[.int .i64 1000000000, .int .i64 1000000001, .int .i64 999999937] 3))
    have g2 := UB.ext v2 ((Ext.refl wb).alloc (.cells #[.int .i64 1000000000, .int .i64 1000000001, .int .i64 999999937] 3))
    have q2 := r2.alloc (.cells #[.int .i64 1000000000, .int .i64 1000000001, .int .i64 999999937] 3)
    refine (among_c _ _ (lo + 2) B _ c2 (by omega) L2 (by simp) (by simp [blk, ablk]; omega)).mono ?_
    rintro e w3 ⟨⟨z, rfl⟩, hc3, hu3⟩
    have HC3 := Lib.hid hc3; clear hc3
    have r3 := q2.upd hu3 (by omega)
    have hq := g2.trans hu3
    have f0 := r3.free 0
    have f1 := r3.free 1
    have e0 := r3.cell 0 (by simp)
    have e1 := r3.cell 1 (by simp)
    have hp := retFrac (n := .int .i64 y) (d := .int .i64 z) r3 HC3.out hB
    have k0 := hp.1.cell 0 (by simp)
    have k1 := hp.1.cell 1 (by simp)
    clear L2 c2 g2 q2 hu3
    go_wp2
    refine bodyPost_ret (v := .agg #[.int .i64 y, .int .i64 z]) (by simp [results, Try.results19, go_sem, k0, k1]) rfl ⟨⟨_, _, rfl⟩, hp.2, ?_⟩
    exact (hq.setCell _ (fun h => by simp at h)).setCell _ (fun h => by simp at h)
  have hb2 : (x == 2) = false := by simp [hx2]
  go_wp2_with fail
  refine (frac_c (lo + 1) B _ HC.out (by omega)).mono ?_
  rintro e w2 ⟨⟨y, z, rfl⟩, hc2, hu2⟩
  have HC2 := Lib.hid hc2; clear hc2
  have r3 := r1.upd hu2 (by omega)
  have f0 := r3.free 0
  have f1 := r3.free 1
  have e0 := r3.cell 0 (by simp)
  have e1 := r3.cell 1 (by simp)
  have hp := retFrac (n := .int .i64 y) (d := .int .i64 z) r3 HC2.out hB
  have k0 := hp.1.cell 0 (by simp)
  have k1 := hp.1.cell 1 (by simp)
  have hq := v1.trans hu2
  go_wp2
  refine bodyPost_ret (v := .agg #[.int .i64 y, .int .i64 z]) (by simp [results, Try.results19, go_sem, k0, k1]) rfl ⟨⟨_, _, rfl⟩, hp.2, ?_⟩
  exact (hq.setCell _ (fun h => by simp at h)).setCell _ (fun h => by simp at h)
end Go.Proofs.Ytmhofeljieicaaa
