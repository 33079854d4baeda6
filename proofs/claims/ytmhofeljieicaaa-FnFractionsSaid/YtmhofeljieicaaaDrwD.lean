/- Drawn pairs of fractions; sums and quotients whole. -/
import Derived.Test.YtmhofeljieicaaaDrwP
namespace Go.Proofs.Ytmhofeljieicaaa
open Go.RowKit

theorem cur_new (w w0 : World) (ao : Option Addr) (cap : Nat) (xs : List Int) (h1 : xs.length ≤ cap) (h2 : cap ≤ 9223372036854775807) (h3 : BytesA w0 ao xs) (h4 : WfB xs) (h5 : xs.length ≤ 9223372036854775807) (u : Ext w0 w) :
    Cur 0 w.heap.size (w.alloc (.cells #[.slice ao xs.length cap, .int .i64 0, .int .u64 0] 42)) :=
  ⟨ao, cap, xs, 0, 0, w, h1, h2, h3.ext u, h4, h5, Nat.le_refl _, ((Ext.refl w).alloc _).upd (S := fun z => z = w.heap.size), by omega, by omega, Box.new w _ _ rfl⟩

set_option maxHeartbeats 1600000 in
theorem drawAdd_c (v : Value) (xs : List Int) (w : World) (h : Bytes w v xs) (hx : WfB xs) (hl : xs.length ≤ 9223372036854775807) :
    Calls Try.prog 5 #[v] w fun e w' => (∃ a b c d : Int, e = .returned (.tuple #[.agg #[.int .i64 a, .int .i64 b], .agg #[.int .i64 c, .int .i64 d]])) ∧ Ext w w' := by
  obtain ⟨ao, cap, rfl, h1, h2, h3⟩ := h
  have u0 := ((Ext.refl w).alloc (.cells #[.int .i64 0, .int .i64 0] 24)).alloc (.cells #[.int .i64 0, .int .i64 0] 24)
  have r2 := ((Box.new w 24 #[.int .i64 0, .int .i64 0] rfl).alloc (.cells #[.int .i64 0, .int .i64 0] 24)).alloc (.cells #[.slice ao xs.length cap, .int .i64 0, .int .u64 0] 42)
  have r3 := (Box.new (w.alloc (.cells #[.int .i64 0, .int .i64 0] 24)) 24 #[.int .i64 0, .int .i64 0] (b := w.heap.size + 1) (by simp)).alloc (.cells #[.slice ao xs.length cap, .int .i64 0, .int .u64 0] 42)
  have hc := cur_new _ w ao cap xs h1 h2 h3 hx hl u0
  have hB : ((w.alloc (.cells #[.int .i64 0, .int .i64 0] 24)).alloc (.cells #[.int .i64 0, .int .i64 0] 24)).heap.size = w.heap.size + 2 := by simp
  rw [hB] at hc
  have H := Lib.hid hc; clear hc hB h3
  have u1 := u0.alloc (.cells #[.slice ao xs.length cap, .int .i64 0, .int .u64 0] 42)
  clear u0
  go_enter Try.func5, Try.ntmps5
  go_wp2_with fail
  refine (anyFrac_c 0 (w.heap.size + 2) _ H.out (by omega)).mono ?_
  rintro e w1 ⟨⟨a, b, rfl⟩, hc1, hu1⟩
  have H1 := Lib.hid hc1; clear hc1
  go_wp2_with fail
  refine (anyFrac_c 3 (w.heap.size + 2) _ H1.out (by omega)).mono ?_
  rintro e w2 ⟨⟨c, d, rfl⟩, hc2, hu2⟩
  clear hc2
  have hq := hu1.trans hu2
  have q2 := r2.upd hq (by omega)
  have q3 := r3.upd hq (by omega)
  have hx := u1.of_upd hq (fun b hb => by omega)
  have e20 := q2.cell 0 (by simp)
  have e21 := q2.cell 1 (by simp)
  have e30 := q3.cell 0 (by simp)
  have e31 := q3.cell 1 (by simp)
  have f20 := q2.free 0
  have f21 := q2.free 1
  have f30 := q3.free 0
  have f31 := q3.free 1
  go_wp2
  refine bodyPost_ret (v := .tuple #[.agg #[.int .i64 a, .int .i64 b], .agg #[.int .i64 c, .int .i64 d]]) (by simp [results, Try.results5, go_sem, e20, e21, e30, e31]) rfl ⟨⟨a, b, c, d, rfl⟩, ?_⟩
  exact (((hx.setCell _ (by simp)).setCell _ (by simp)).setCell _ (by simp)).setCell _ (by simp)
set_option maxHeartbeats 1600000 in
theorem drawDiv_c (v : Value) (xs : List Int) (w : World) (h : Bytes w v xs) (hx : WfB xs) (hl : xs.length ≤ 9223372036854775807) :
    Calls Try.prog 8 #[v] w fun e w' => (∃ a b c d : Int, e = .returned (.tuple #[.agg #[.int .i64 a, .int .i64 b], .agg #[.int .i64 c, .int .i64 d]])) ∧ Ext w w' := by
  have u0 := ((Ext.refl w).alloc (.cells #[.int .i64 0, .int .i64 0] 24)).alloc (.cells #[.int .i64 0, .int .i64 0] 24)
  have r2 := (Box.new w 24 #[.int .i64 0, .int .i64 0] rfl).alloc (.cells #[.int .i64 0, .int .i64 0] 24)
  have r3 := Box.new (w.alloc (.cells #[.int .i64 0, .int .i64 0] 24)) 24 #[.int .i64 0, .int .i64 0] (b := w.heap.size + 1) (by simp)
  have H := Lib.hid (h.ext u0); clear h
  go_enter Try.func8, Try.ntmps8
  go_wp2_with fail
  refine (drawAdd_c v xs _ H.out hx hl).mono ?_
  rintro e w1 ⟨⟨a, b, c, d, rfl⟩, hu1⟩
  have q2 := r2.ext hu1
  have q3 := r3.ext hu1
  have hx := u0.trans hu1
  have e20 := q2.cell 0 (by simp)
  have e21 := q2.cell 1 (by simp)
  have e30 := q3.cell 0 (by simp)
  have e31 := q3.cell 1 (by simp)
  have f20 := q2.free 0
  have f21 := q2.free 1
  have f30 := q3.free 0
  have f31 := q3.free 1
  go_wp2
  refine bodyPost_ret (v := .tuple #[.agg #[.int .i64 a, .int .i64 b], .agg #[.int .i64 c, .int .i64 d]]) (by simp [results, Try.results8, go_sem, e20, e21, e30, e31]) rfl ⟨⟨a, b, c, d, rfl⟩, ?_⟩
  exact (((hx.setCell _ (by simp)).setCell _ (by simp)).setCell _ (by simp)).setCell _ (by simp)
end Go.Proofs.Ytmhofeljieicaaa
