/- ExpBounds, the spec's. -/
import Derived.Test.YtmhofeljieicaaaExpW
import Derived.Test.YtmhofeljieicaaaQext
import Derived.Deep.RegionHeld3
import Derived.Deep.CutRange
namespace Go.Proofs.Ytmhofeljieicaaa
open Go.RowKit

theorem put2 {w : World} {B : Nat} {x0 x1 : Value} (h : Box w B 24 #[x0, x1]) (u v : Value) :
    Box ((w.setCell ⟨B, 0, none⟩ u).setCell ⟨B, 1, none⟩ v) B 24 #[u, v] ∧ Upd (fun z => z = B) w ((w.setCell ⟨B, 0, none⟩ u).setCell ⟨B, 1, none⟩ v) :=
  ⟨(h.set 0 u).set 1 v, ((Upd.refl (S := fun z => z = B) w).setCell (a := ⟨B, 0, none⟩) _ (fun _ => rfl)).setCell (a := ⟨B, 1, none⟩) _ (fun _ => rfl)⟩
def sgn (x : Int) : Int := if x < 0 then -1 else if 0 < x then 1 else 0
theorem fInt_c (m : Int) (w : World) : Calls Try.prog 28 #[.int .i64 m] w fun e w' => e = .returned (.agg #[.int .i64 m, .int .i64 1]) ∧ Ext w w' := by
  have b0 := Box.new w 24 #[.int .i64 0, .int .i64 0] rfl
  have u0 := (Ext.refl w).alloc (.cells #[.int .i64 0, .int .i64 0] 24)
  have u1 := (Ext.refl w).alloc (.cells #[.int .i64 m, .int .i64 1] 24)
  have b1 := Box.new w 24 #[.int .i64 m, .int .i64 1] rfl
  have c0 := b1.cell 0 (by simp)
  have c1 := b1.cell 1 (by simp)
  go_enter Try.func28, Try.ntmps28
  go_wp2
  refine bodyPost_ret (v := .agg #[.int .i64 m, .int .i64 1]) (by simp [results, Try.results28, go_sem, c0, c1]) rfl ⟨rfl, ?_⟩
  first | exact u1 | exact (u0.setCell _ (by simp)).setCell _ (by simp)
theorem l1Sign_c (x : Int) (w : World) : Calls Try.prog 41 #[.int .i64 x] w fun e w' => e = .returned (.int .i64 (sgn x)) ∧ w' = w := by
  by_cases h1 : x < 0
  · go_enter Try.func41, Try.ntmps41
    go_wp2
    go_ret
    exact ⟨ret_int (by simp [sgn, h1]), rfl⟩
  · by_cases h2 : 0 < x
    · go_enter Try.func41, Try.ntmps41
      go_wp2
      go_ret
      exact ⟨ret_int (by simp [sgn, h1, h2]), rfl⟩
    · go_enter Try.func41, Try.ntmps41
      go_wp2
      go_ret
      exact ⟨ret_int (by unfold sgn; rw [if_neg (by omega), if_neg (by omega)]), rfl⟩
theorem fCmp_c (a b c d : Int) (w : World) (ha : goodF a b = true) (hc : goodF c d = true) : Calls Try.prog 38 #[.agg #[.int .i64 a, .int .i64 b], .agg #[.int .i64 c, .int .i64 d]] w fun e w' => e = .returned (.int .i64 (sgn (a * d - c * b))) ∧ Ext w w' := by
  obtain ⟨h1, h2, h3, h4, _⟩ := goodF_bounds ha
  obtain ⟨g1, g2, g3, g4, _⟩ := goodF_bounds hc
  have m1 := mul_bound (a := a) (b := d) ⟨h3, h4⟩ ⟨by omega, g2⟩
  have m2 := mul_bound (a := c) (b := b) ⟨g3, g4⟩ ⟨by omega, h2⟩
  have hw0 : IntKind.i64.wrap (a * d) = a * d := IntWalk.i64_in _ (by omega)
  have hw1 : IntKind.i64.wrap (c * b) = c * b := IntWalk.i64_in _ (by omega)
  have hw2 : IntKind.i64.wrap (a * d - c * b) = a * d - c * b := IntWalk.i64_in _ (by omega)
  clear m1 m2
  have u0 := ((Ext.refl w).alloc (.cells #[.int .i64 a, .int .i64 b] 24)).alloc (.cells #[.int .i64 c, .int .i64 d] 24)
  have b2 := (Box.new w 24 #[.int .i64 a, .int .i64 b] rfl).alloc (.cells #[.int .i64 c, .int .i64 d] 24)
  have b3 := Box.new (w.alloc (.cells #[.int .i64 a, .int .i64 b] 24)) 24 #[.int .i64 c, .int .i64 d] (b := w.heap.size + 1) (by simp)
  have e20 := b2.cell 0 (by simp)
  have e21 := b2.cell 1 (by simp)
  have e30 := b3.cell 0 (by simp)
  have e31 := b3.cell 1 (by simp)
  go_enter Try.func38, Try.ntmps38
  go_wp2_with fail
  refine (l1Sign_c (a * d - c * b) _).mono ?_
  rintro e w1 ⟨rfl, rfl⟩
  go_wp2
  go_ret
  exact ⟨rfl, u0⟩
theorem fMake_z (w : World) : Calls Try.prog 37 #[.int .i64 0, .int .i64 0] w fun e w' => e = .returned (.tuple #[.agg #[.int .i64 0, .int .i64 0], .bool false]) ∧ Ext w w' := by
  have u0 := (Ext.refl w).alloc (.cells #[.int .i64 0, .int .i64 0] 24)
  have b0 := Box.new w 24 #[.int .i64 0, .int .i64 0] rfl
  have c0 := b0.cell 0 (by simp)
  have c1 := b0.cell 1 (by simp)
  have f0 := b0.free 0
  have f1 := b0.free 1
  go_enter Try.func37, Try.ntmps37
  go_wp2
  refine bodyPost_ret (v := .tuple #[.agg #[.int .i64 0, .int .i64 0], .bool false]) (by simp [results, Try.results37, go_sem, c0, c1]) rfl ⟨rfl, ?_⟩
  first | exact u0 | exact (u0.setCell _ (by simp)).setCell _ (by simp)
theorem fDiv_z (i : Int) (w : World) (h0 : i ≠ 0) : Calls Try.prog 23 #[.agg #[.int .i64 0, .int .i64 0], .agg #[.int .i64 i, .int .i64 1]] w fun e w' => e = .returned (.tuple #[.agg #[.int .i64 0, .int .i64 0], .bool false]) ∧ Ext w w' := by
  have u0 := (((Ext.refl w).alloc (.cells #[.int .i64 0, .int .i64 0] 24)).alloc (.cells #[.int .i64 i, .int .i64 1] 24)).alloc (.cells #[.int .i64 0, .int .i64 0] 24)
  have b2 := ((Box.new w 24 #[.int .i64 0, .int .i64 0] rfl).alloc (.cells #[.int .i64 i, .int .i64 1] 24)).alloc (.cells #[.int .i64 0, .int .i64 0] 24)
  have b3 := (Box.new (w.alloc (.cells #[.int .i64 0, .int .i64 0] 24)) 24 #[.int .i64 i, .int .i64 1] (b := w.heap.size + 1) (by simp)).alloc (.cells #[.int .i64 0, .int .i64 0] 24)
  have b4 := Box.new ((w.alloc (.cells #[.int .i64 0, .int .i64 0] 24)).alloc (.cells #[.int .i64 i, .int .i64 1] 24)) 24 #[.int .i64 0, .int .i64 0] (b := w.heap.size + 2) (by simp)
  have e20 := b2.cell 0 (by simp)
  have e21 := b2.cell 1 (by simp)
  have e30 := b3.cell 0 (by simp)
  have e31 := b3.cell 1 (by simp)
  have hi : (i == 0) = false := by simp [h0]
  go_enter Try.func23, Try.ntmps23
  go_wp2_with fail
  refine (fMake_z _).mono ?_
  rintro e w1 ⟨rfl, u1⟩
  have z4 := b4.ext u1
  have e40 := z4.cell 0 (by simp)
  have e41 := z4.cell 1 (by simp)
  have f0 := z4.free 0
  have f1 := z4.free 1
  go_wp2
  refine bodyPost_ret (v := .tuple #[.agg #[.int .i64 0, .int .i64 0], .bool false]) (by simp [results, Try.results23, go_sem, e40, e41]) rfl ⟨rfl, ?_⟩
  exact ((u0.trans u1).setCell _ (by simp; omega)).setCell _ (by simp; omega)
set_option maxHeartbeats 1600000 in
theorem kUnit_b (b : Bool) (n d : Int) (w : World) (hb : (goodF n d && (decide (0 ≤ n) && decide (n ≤ d))) = b) :
    Calls Try.prog 26 #[.agg #[.int .i64 n, .int .i64 d], .int .i64 1] w fun e w' => e = .returned (.bool b) ∧ Ext w w' := by
  have u0 := (Ext.refl w).alloc (.cells #[.int .i64 n, .int .i64 d] 24)
  have b0 := Box.new w 24 #[.int .i64 n, .int .i64 d] rfl
  obtain ⟨ws, hws⟩ : ∃ ws, w.alloc (.cells #[.int .i64 n, .int .i64 d] 24) = ws := ⟨_, rfl⟩
  rw [hws] at u0 b0
  have F0 : ∀ z : ExtOf ws, z.w.cell? ⟨w.heap.size, 0, none⟩ = some (.int .i64 n) := fun z => Ext.cell z.ext (b0.cell 0 (by simp))
  have F1 : ∀ z : ExtOf ws, z.w.cell? ⟨w.heap.size, 1, none⟩ = some (.int .i64 d) := fun z => Ext.cell z.ext (b0.cell 1 (by simp))
  have HWS := Lib.hid hws; clear hws
  cases hg : goodF n d
  · rw [hg, Bool.false_and] at hb
    subst hb
    have HG := Lib.hid hg; clear hg
    go_enter Try.func26, Try.ntmps26
    go_wp2_with fail
    rw [HWS.out]
    refine wp_region_quiet_ext (by kernel_rfl) (by kernel_rfl) ?_
    repeat (quiet_step ((go_at_call 36; exact calls_ext (fGood_a false n d _ HG.out))))
    refine wpQuiet_nil ?_
    intro _ hw'
    obtain ⟨⟨wq, uq⟩, hw''⟩ := hw'
    subst hw''
    go_wp2
    go_ret
    exact ⟨rfl, u0.trans uq⟩
  rw [hg, Bool.true_and] at hb
  have HG := Lib.hid hg
  by_cases h1 : 0 ≤ n
  case neg =>
    have e : b = false := by rw [← hb]; simp [h1]
    subst e; clear hb hg
    have hd1 : decide (0 ≤ n) = false := by simp [h1]
    have hd2 : n < 0 := by omega
    go_enter Try.func26, Try.ntmps26
    go_wp2_with fail
    rw [HWS.out]
    refine wp_region_quiet_ext (by kernel_rfl) (by kernel_rfl) ?_
    repeat (quiet_step ((go_at_call 36; exact calls_ext (fGood_a true n d _ HG.out))))
    refine wpQuiet_nil ?_
    intro _ hw'
    obtain ⟨⟨wq, uq⟩, hw''⟩ := hw'
    subst hw''
    go_wp2
    go_ret
    exact ⟨rfl, u0.trans uq⟩
  have hd1 : decide (0 ≤ n) = true := by simp [h1]
  have HG1 := Lib.hid (goodF_int (n := 1) (by omega))
  have hs : (decide (sgn (n * 1 - 1 * d) ≤ 0)) = b := by
    rw [← hb]
    have e : n * 1 - 1 * d = n - d := by omega
    rw [e]; unfold sgn
    by_cases h2 : n ≤ d
    · have : ¬ 0 < n - d := by omega
      by_cases h3 : n - d < 0
      · rw [if_pos h3]; simp [h1, h2]
      · rw [if_neg h3, if_neg this]; simp [h1, h2]
    · have h3 : ¬ (n - d < 0) := by omega
      have h4 : 0 < n - d := by omega
      rw [if_neg h3, if_pos h4]; simp [h2]
  have HS := Lib.hid hs; clear hs hb hg
  obtain ⟨S, hS⟩ : ∃ S, sgn (n * 1 - 1 * d) = S := ⟨_, rfl⟩
  rw [hS] at HS
  have HSS := Lib.hid hS; clear hS
  go_enter Try.func26, Try.ntmps26
  go_wp2_with fail
  rw [HWS.out]
  refine wp_region_quiet_ext (by kernel_rfl) (by kernel_rfl) ?_
  repeat (quiet_step ((first
    | (go_at_call 36; exact calls_ext (fGood_a true n d _ HG.out))
    | (go_at_call 28; exact calls_ext (fInt_c 1 _))
    | (go_at_call 38; exact calls_ext (HSS.out ▸ fCmp_c n d 1 1 _ HG.out HG1.out)))))
  refine wpQuiet_nil ?_
  intro _ hw'
  obtain ⟨⟨wq, uq⟩, hw''⟩ := hw'
  subst hw''
  go_wp2
  go_ret
  exact ⟨ret_bool HS.out, u0.trans uq⟩
end Go.Proofs.Ytmhofeljieicaaa
