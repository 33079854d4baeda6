/- Contracts of the laws' helpers over NoiseTable. -/
import Derived.Test.YtabfnpndfknjaaaSz
namespace Go.Proofs.Ytabfnpndfknjaaa
open Go.RowKit

set_option maxHeartbeats 400000 in
theorem szNoiseTable_c (v : Value) (xss : List (List Int)) (left : Int) (w : World) (h : Grid w v xss) (h0 : 0 ≤ left ∧ left ≤ 1048576) :
    Calls Try.prog 23 #[.agg #[v], .int .i64 left] w fun e w' => e = .returned (.int .i64 (szG left xss)) ∧ Ext w w' := by
  have H := Lib.hid h
  obtain ⟨ao, cap, rfl, h1, h2, h3⟩ := h
  clear h3
  by_cases hz : szG left xss < 0
  · have hz' : szG left xss = -1 := by rcases szG_cases left xss with h | h <;> omega
    have HZ := Lib.hid hz'; clear hz'
    go_enter Try.func23, Try.ntmps23
    go_wp2_with fail
    refine (szIntSS_c _ xss left _ (H.out.ext ((Ext.refl w).alloc _)) h0).mono ?_
    rintro e w' ⟨rfl, rfl⟩
    go_wp2
    go_ret
    exact ⟨ret_int HZ.out.symm, (Ext.refl w).alloc _⟩
  · go_enter Try.func23, Try.ntmps23
    go_wp2_with fail
    refine (szIntSS_c _ xss left _ (H.out.ext ((Ext.refl w).alloc _)) h0).mono ?_
    rintro e w' ⟨rfl, rfl⟩
    go_wp2
    go_ret
    exact ⟨rfl, (Ext.refl w).alloc _⟩

set_option maxHeartbeats 400000 in
theorem toNoiseTable_c (v : Value) (xss : List (List Int)) (w : World) (h : Grid w v xss) (s : Small xss) :
    Calls Try.prog 25 #[.agg #[v]] w fun e w' => ∃ v' rvs, e = .returned (.agg #[v']) ∧ OwnG w.heap.size w'.heap.size w' v' rvs xss ∧ Ext w w' := by
  have H := Lib.hid h
  obtain ⟨ao, cap, rfl, h1, h2, h3⟩ := h
  clear h3
  go_enter Try.func25, Try.ntmps25
  go_wp2_with fail
  have u0 := (((Ext.refl w).alloc (.cells #[.slice ao xss.length cap] 41)).alloc (.cells #[.slice none 0 0] 46)).alloc (.cells #[.slice none 0 0] 46)
  have b1 := (Box.new (w.alloc (.cells #[.slice ao xss.length cap] 41)) 46 #[.slice none 0 0] (b := w.heap.size + 1) (by simp)).alloc (.cells #[.slice none 0 0] 46)
  have b2 := Box.new ((w.alloc (.cells #[.slice ao xss.length cap] 41)).alloc (.cells #[.slice none 0 0] 46)) 46 #[.slice none 0 0] (b := w.heap.size + 2) (by simp)
  refine (toIntSS_c _ xss _ (H.out.ext u0) s.len s.row).mono ?_
  rintro e w1 ⟨x1, r1, rfl, o1, u1⟩
  have c1 := (b1.ext u1).cell 0 (by simp)
  have f1 := (b1.ext u1).free 0
  have c2 := (b2.ext u1).cell 0 (by simp)
  have f2 := (b2.ext u1).free 0
  have hsz := u1.size
  have O1 := Lib.hid o1
  obtain ⟨ao', cap', rfl, _, _, _⟩ := o1
  go_wp2
  refine bodyPost_ret (v := .agg #[.slice ao' xss.length cap']) (by simp [results, Try.results25, go_sem, c1]) rfl ⟨_, r1, rfl, ?_, ?_⟩
  · exact ((O1.out.put_away _ _ (.inl (by simp))).put_away _ _ (.inl (by simp))).mono (by simp; omega) (by simp [World.setCell])
  · exact ((u0.trans u1).setCell _ (by simp; omega)).setCell _ (by simp)

set_option maxHeartbeats 400000 in
theorem eqNoiseTable_b (b : Bool) (v1 v2 : Value) (xs ys : List (List Int)) (w : World) (hb : decide (xs = ys) = b) (h1 : Grid w v1 xs) (h2 : Grid w v2 ys) :
    Calls Try.prog 28 #[.agg #[v1], .agg #[v2]] w fun e w' => e = .returned (.bool b) ∧ Ext w w' := by
  have H1 := Lib.hid h1
  have H2 := Lib.hid h2
  have HB := Lib.hid hb; clear hb
  obtain ⟨a1, c1, rfl, e1, e2, g1⟩ := h1
  obtain ⟨a2, c2, rfl, e3, e4, g2⟩ := h2
  clear g1 g2
  have u0 := ((Ext.refl w).alloc (.cells #[.slice a1 xs.length c1] 46)).alloc (.cells #[.slice a2 ys.length c2] 46)
  cases b
  · go_enter Try.func28, Try.ntmps28
    go_wp2_with fail
    refine (eqIntSS_b false _ _ xs ys _ HB.out (H1.out.ext u0) (H2.out.ext u0)).mono ?_
    rintro e w' ⟨rfl, hd⟩
    go_wp2
    go_ret
    exact ⟨rfl, u0.trans hd.ext⟩
  · go_enter Try.func28, Try.ntmps28
    go_wp2_with fail
    refine (eqIntSS_b true _ _ xs ys _ HB.out (H1.out.ext u0) (H2.out.ext u0)).mono ?_
    rintro e w' ⟨rfl, hd⟩
    go_wp2
    go_ret
    exact ⟨rfl, u0.trans hd.ext⟩

set_option maxHeartbeats 400000 in
theorem markNoiseTable_c (lo hi : Nat) (v : Value) (rvs : List Value) (xss : List (List Int)) (k0 : Int) (w : World) (h : OwnG lo hi w v rvs xss) (s : Small xss) (hk0 : 0 ≤ k0 ∧ k0 ≤ 1099510579200) :
    Calls Try.prog 29 #[.agg #[v], .int .i64 k0] w fun e w' => e = .returned (.int .i64 (k0 + psum xss xss.length)) ∧ (∃ yss, OwnG lo hi w' v rvs yss ∧ MarkedG k0 xss yss) ∧ Upd (rowBlks rvs xss) w w' := by
  have H := Lib.hid h
  obtain ⟨ao, cap, rfl, h1, h2, h3⟩ := h
  clear h3
  have u0 := (Ext.refl w).alloc (.cells #[.slice ao xss.length cap] 46)
  go_enter Try.func29, Try.ntmps29
  go_wp2_with fail
  refine (markIntSS_c lo hi _ rvs xss k0 _ (H.out.ext u0) s.row s.psum hk0).mono ?_
  rintro e w' ⟨rfl, hm, hu⟩
  go_wp2
  go_ret
  exact ⟨rfl, hm, u0.then_upd hu⟩

end Go.Proofs.Ytabfnpndfknjaaa
