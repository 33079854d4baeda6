/- The laws on IsNoiseTable and NoiseOf. -/
import Derived.Test.YtgcahhbnjedheaaNoiseOf
import Derived.Deep.RegionHeld3
namespace Go.Proofs.Ytgcahhbnjedheaa
open Go.RowKit

theorem specIsNoiseTable_c (b : Bool) (v : Value) (xss : List (List Int)) (w : World) (hb : ntB xss = b) (h : Grid w v xss) :
    Calls Try.prog 24 #[.agg #[v]] w fun e w' => e = .returned (.bool b) ∧ Ext w w' := by
  have H := Lib.hid h
  obtain ⟨ao, cap, rfl, h1, h2, h3⟩ := h
  clear h3
  have u0 := (Ext.refl w).alloc (.cells #[.slice ao xss.length cap] 30)
  go_enter Try.func24, Try.ntmps24
  go_wp2_with fail
  refine (yGood_b b _ xss _ hb (H.out.ext u0)).mono ?_
  rintro e w1 ⟨rfl, u1⟩
  go_wp2
  go_ret
  exact ⟨rfl, u0.trans u1⟩

set_option maxHeartbeats 1600000 in
theorem lawIsNoiseTable_c (v : Value) (xss : List (List Int)) (w : World) (h : Grid w v xss) (_ : WfG xss) :
    Calls Try.prog 6 #[.agg #[v]] w fun e w' => e = .returned (.bool true) ∧ Ext w w' := by
  have H := Lib.hid h
  obtain ⟨ao, cap, rfl, h1, h2, h3⟩ := h
  clear h3
  have u0 := (Ext.refl w).alloc (.cells #[.slice ao xss.length cap] 40)
  have b0 := Box.new w 40 #[.slice ao xss.length cap] rfl
  by_cases hz : szG 1048576 xss < 0
  · go_enter Try.func6, Try.ntmps6
    go_wp2_with fail
    refine (szNoiseTable_c _ xss 1048576 _ (H.out.ext u0) (by omega)).mono ?_
    rintro e w1 ⟨rfl, u1⟩
    go_wp2
    go_ret
    exact ⟨rfl, u0.trans u1⟩
  · have S := Lib.hid (Small.of_szG (left := 1048576) (by omega) (Int.not_lt.1 hz))
    have hq : (ntB xss != ntB xss) = false := by simp
    go_enter Try.func6, Try.ntmps6
    go_wp2_with fail
    refine (szNoiseTable_c _ xss 1048576 _ (H.out.ext u0) (by omega)).mono ?_
    rintro e w1 ⟨rfl, u1⟩
    have c1 := (b0.ext u1).cell 0 (by simp)
    have v1 := u0.trans u1
    go_wp2_with fail
    refine (toNoiseTable_c _ xss _ (H.out.ext v1) S.out).mono ?_
    rintro e w2 ⟨x2, r2, rfl, o2, u2⟩
    go_wp2_with fail
    refine (specIsNoiseTable_c _ _ xss _ rfl o2.grid).mono ?_
    rintro e w3 ⟨rfl, u3⟩
    have v3 := (v1.trans u2).trans u3
    have b3 := ((b0.ext u1).ext u2).ext u3
    have c3 := b3.cell 0 (by simp)
    go_wp2_with fail
    refine (toNoiseTable_c _ xss _ (H.out.ext v3) S.out).mono ?_
    rintro e w4 ⟨x4, r4, rfl, o4, u4⟩
    have v4 := v3.trans u4
    have O4 := Lib.hid o4
    obtain ⟨a4, cp4, rfl, q1, q2, q3⟩ := o4
    clear q3
    have b4 := Box.new w4 30 #[.slice a4 xss.length cp4] rfl
    have u4' := (Ext.refl w4).alloc (.cells #[.slice a4 xss.length cp4] 30)
    go_wp2_with fail
    refine (implIsNoiseTable_b _ _ xss _ rfl (O4.out.grid.ext u4')).mono ?_
    rintro e w5 ⟨rfl, u5⟩
    have v5 := (v4.trans u4').trans u5
    have b5 := b4.ext u5
    have a5 := (b3.ext u4).ext (u4'.trans u5)
    have c5 := b5.cell 0 (by simp)
    have d5 := a5.cell 0 (by simp)
    have g5 := (O4.out.grid.ext u4').ext u5
    have G5 := Lib.hid g5; clear g5
    have hsz := v5.size
    have hsz4 := v4.size
    go_wp2_with fail
    go_region_held3 (fun w' => w'.cell? ⟨w.heap.size, 0, none⟩ = some (.slice ao xss.length cap) ∧ w'.cell? ⟨w4.heap.size, 0, none⟩ = some (.slice a4 xss.length cp4))
      (first | go_keep | exact ⟨Ext.cell u7 (Ext.cell u6 d5), Ext.cell u7 (Ext.cell u6 c5)⟩ | exact ⟨Ext.cell u6 d5, Ext.cell u6 c5⟩)
      ((first
        | (go_at_call 25; refine (toNoiseTable_c _ xss _ (H.out.ext v5.drew) S.out).mono ?_; rintro e w6 ⟨x6, r6, rfl, o6, u6⟩)
        | (go_at_call 15; refine (eqNoiseTable_b true _ _ xss xss _ (by simp) ((Grid.ext G5.out (Ext.refl _).drew).ext u6) o6.grid).mono ?_; rintro e w7 ⟨rfl, u7⟩)))
    go_wp2
    go_ret
    exact ⟨rfl, (v5.drew.trans u6).trans u7⟩

set_option maxHeartbeats 1600000 in
theorem lawNoiseOf_c (v : Value) (xss : List (List Int)) (count key : Int) (w : World) (h : Grid w v xss) (_ : WfG xss) (hc : -9223372036854775808 ≤ count ∧ count ≤ 9223372036854775807) (_ : -9223372036854775808 ≤ key ∧ key ≤ 9223372036854775807) :
    Calls Try.prog 8 #[.agg #[v], .int .i64 count, .int .i64 key] w fun e w' => e = .returned (.bool true) ∧ Ext w w' := by
  have H := Lib.hid h
  have HC := Lib.hid hc.2; clear hc
  obtain ⟨ao, cap, rfl, h1, h2, h3⟩ := h
  clear h3
  have u0 := (Ext.refl w).alloc (.cells #[.slice ao xss.length cap] 40)
  have b0 := Box.new w 40 #[.slice ao xss.length cap] rfl
  by_cases hz : szG 1048576 xss < 0
  · go_enter Try.func8, Try.ntmps8
    go_wp2_with fail
    refine (szNoiseTable_c _ xss 1048576 _ (H.out.ext u0) (by omega)).mono ?_
    rintro e w1 ⟨rfl, u1⟩
    go_wp2
    go_ret
    exact ⟨rfl, u0.trans u1⟩
  · have S := Lib.hid (Small.of_szG (left := 1048576) (by omega) (Int.not_lt.1 hz))
    obtain ⟨B, hB⟩ : ∃ B, B = noB (ntB xss) count key := ⟨_, rfl⟩
    obtain ⟨V, hV⟩ : ∃ V, V = noV (ntB xss) xss count key := ⟨_, rfl⟩
    have HB := Lib.hid hB; clear hB
    have HV := Lib.hid hV; clear hV
    have hq : (B != B) = false := by simp
    have hq2 : decide (V = V) = true := by simp
    have hq3 : (V != V) = false := by simp
    go_enter Try.func8, Try.ntmps8
    go_wp2_with fail
    refine (szNoiseTable_c _ xss 1048576 _ (H.out.ext u0) (by omega)).mono ?_
    rintro e w1 ⟨rfl, u1⟩
    have c1 := (b0.ext u1).cell 0 (by simp)
    have v1 := u0.trans u1
    go_wp2_with fail
    refine (toNoiseTable_c _ xss _ (H.out.ext v1) S.out).mono ?_
    rintro e w2 ⟨x2, r2, rfl, o2, u2⟩
    go_wp2_with fail
    refine (specNoiseOf_c _ xss count key _ o2.grid HC.out).mono ?_
    rw [← HB.out, ← HV.out]
    rintro e w3 ⟨rfl, u3⟩
    have v3 := (v1.trans u2).trans u3
    have b3 := ((b0.ext u1).ext u2).ext u3
    have c3 := b3.cell 0 (by simp)
    go_wp2_with fail
    refine (toNoiseTable_c _ xss _ (H.out.ext v3) S.out).mono ?_
    rintro e w4 ⟨x4, r4, rfl, o4, u4⟩
    have v4 := v3.trans u4
    have O4 := Lib.hid o4
    obtain ⟨a4, cp4, rfl, q1, q2, q3⟩ := o4
    clear q3
    have b4 := Box.new w4 30 #[.slice a4 xss.length cp4] rfl
    have u4' := (Ext.refl w4).alloc (.cells #[.slice a4 xss.length cp4] 30)
    go_wp2_with fail
    refine (implNoiseOf_c _ xss count key _ (O4.out.grid.ext u4') HC.out).mono ?_
    rw [← HB.out, ← HV.out]
    rintro e w5 ⟨rfl, u5⟩
    have v5 := (v4.trans u4').trans u5
    have b5 := b4.ext u5
    have a5 := (b3.ext u4).ext (u4'.trans u5)
    have c5 := b5.cell 0 (by simp)
    have d5 := a5.cell 0 (by simp)
    have g5 := (O4.out.grid.ext u4').ext u5
    have G5 := Lib.hid g5; clear g5
    have hsz := v5.size
    have hsz4 := v4.size
    go_wp2_with fail
    go_region_held3 (fun w' => w'.cell? ⟨w.heap.size, 0, none⟩ = some (.slice ao xss.length cap) ∧ w'.cell? ⟨w4.heap.size, 0, none⟩ = some (.slice a4 xss.length cp4))
      (first | go_keep | exact ⟨Ext.cell u7 (Ext.cell u6 d5), Ext.cell u7 (Ext.cell u6 c5)⟩ | exact ⟨Ext.cell u6 d5, Ext.cell u6 c5⟩)
      ((first
        | (go_at_call 25; refine (toNoiseTable_c _ xss _ (H.out.ext v5.drew) S.out).mono ?_; rintro e w6 ⟨x6, r6, rfl, o6, u6⟩)
        | (go_at_call 15; refine (eqNoiseTable_b true _ _ xss xss _ (by simp) ((Grid.ext G5.out (Ext.refl _).drew).ext u6) o6.grid).mono ?_; rintro e w7 ⟨rfl, u7⟩)))
    go_wp2
    go_ret
    exact ⟨rfl, (v5.drew.trans u6).trans u7⟩
end Go.Proofs.Ytgcahhbnjedheaa
