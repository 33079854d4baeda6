/- The laws on IsTwoWay and IsPattern. -/
import Derived.Test.YtgcahhbnjedheaaGrid
import Derived.Test.YtgcahhbnjedheaaSz
namespace Go.Proofs.Ytgcahhbnjedheaa
open Go.RowKit

set_option maxHeartbeats 400000 in
theorem lawIsTwoWay_c (v : Value) (xss : List (List Int)) (w : World) (h : Grid w v xss) (_ : WfG xss) :
    Calls Try.prog 5 #[v] w fun e w' => e = .returned (.bool true) ∧ Ext w w' := by
  have H := Lib.hid h; clear h
  by_cases hz : szG 1048576 xss < 0
  · go_enter Try.func5, Try.ntmps5
    go_wp2_with fail
    refine (szIntSS_c v xss 1048576 _ H.out (by omega)).mono ?_
    rintro e w' ⟨rfl, rfl⟩
    go_wp2
    go_ret
    exact ⟨rfl, Ext.refl _⟩
  · have S := Lib.hid (Small.of_szG (left := 1048576) (by omega) (Int.not_lt.1 hz))
    have hq : (gridB 8 1000 xss != gridB 8 1000 xss) = false := by simp
    go_enter Try.func5, Try.ntmps5
    go_wp2_with fail
    refine (szIntSS_c v xss 1048576 _ H.out (by omega)).mono ?_
    rintro e w' ⟨rfl, rfl⟩
    go_wp2_with fail
    refine (toIntSS_c _ xss _ H.out S.out.len S.out.row).mono ?_
    rintro e w1 ⟨x1, r1, rfl, o1, u1⟩
    go_wp2_with fail
    refine (specIsTwoWay_c _ xss _ o1.grid).mono ?_
    rintro e w2 ⟨rfl, rfl⟩
    go_wp2_with fail
    refine (toIntSS_c _ xss _ (H.out.ext u1) S.out.len S.out.row).mono ?_
    rintro e w3 ⟨x3, r3, rfl, o3, u3⟩
    go_wp2_with fail
    refine (implIsTwoWay_b _ _ xss _ rfl o3.grid).mono ?_
    rintro e w4 ⟨rfl, rfl⟩
    go_wp2_with fail
    refine (toIntSS_c _ xss _ (H.out.ext (u1.trans u3)) S.out.len S.out.row).mono ?_
    rintro e w5 ⟨x5, r5, rfl, o5, u5⟩
    go_wp2_with fail
    refine (eqIntSS_b true _ _ xss xss _ (by simp) (o3.grid.ext u5) o5.grid).mono ?_
    rintro e w6 ⟨rfl, d6⟩
    go_wp2
    go_ret
    exact ⟨rfl, ((u1.trans u3).trans u5).trans (Drew.ext d6)⟩

set_option maxHeartbeats 800000 in
theorem lawIsPattern_c (v1 : Value) (x : List (List Int)) (v2 : Value) (p : List (List Int)) (w : World) (h1 : Grid w v1 x) (h2 : Grid w v2 p) (_ : WfG x) (_ : WfG p) :
    Calls Try.prog 7 #[v1, v2] w fun e w' => e = .returned (.bool true) ∧ Ext w w' := by
  have H1 := Lib.hid h1; clear h1
  have H2 := Lib.hid h2; clear h2
  by_cases hz : szG 1048576 x < 0
  · go_enter Try.func7, Try.ntmps7
    go_wp2_with fail
    refine (szIntSS_c v1 x 1048576 _ H1.out (by omega)).mono ?_
    rintro e w' ⟨rfl, rfl⟩
    go_wp2
    go_ret
    exact ⟨rfl, Ext.refl _⟩
  have hr := szG_range (Int.not_lt.1 hz)
  by_cases hz2 : szG (szG 1048576 x) p < 0
  · go_enter Try.func7, Try.ntmps7
    go_wp2_with fail
    refine (szIntSS_c v1 x 1048576 _ H1.out (by omega)).mono ?_
    rintro e w' ⟨rfl, rfl⟩
    go_wp2_with fail
    refine (szIntSS_c v2 p _ _ H2.out (by omega)).mono ?_
    rintro e w' ⟨rfl, rfl⟩
    go_wp2
    go_ret
    exact ⟨rfl, Ext.refl _⟩
  · have S1 := Lib.hid (Small.of_szG (left := 1048576) (by omega) (Int.not_lt.1 hz))
    have S2 := Lib.hid (Small.of_szG (xss := p) hr (Int.not_lt.1 hz2))
    have hq : ((gridB 8 1000 x && patB x p) != (gridB 8 1000 x && patB x p)) = false := by simp
    have hq2 : (gridB 8 1000 x != gridB 8 1000 x) = false := by simp
    go_enter Try.func7, Try.ntmps7
    go_wp2_with fail
    refine (szIntSS_c v1 x 1048576 _ H1.out (by omega)).mono ?_
    rintro e w' ⟨rfl, rfl⟩
    go_wp2_with fail
    refine (szIntSS_c v2 p _ _ H2.out (by omega)).mono ?_
    rintro e w' ⟨rfl, rfl⟩
    go_wp2_with fail
    refine (toIntSS_c _ x _ H1.out S1.out.len S1.out.row).mono ?_
    rintro e w1 ⟨x1, r1, rfl, o1, u1⟩
    go_wp2_with fail
    refine (toIntSS_c _ p _ (H2.out.ext u1) S2.out.len S2.out.row).mono ?_
    rintro e w2 ⟨x2, r2, rfl, o2, u2⟩
    go_wp2_with fail
    refine (specIsPattern_c _ _ x p _ (o1.grid.ext u2) o2.grid).mono ?_
    rintro e w3 ⟨rfl, d3⟩
    have u3 := (u1.trans u2).trans d3.ext
    go_wp2_with fail
    refine (toIntSS_c _ x _ (H1.out.ext u3) S1.out.len S1.out.row).mono ?_
    rintro e w4 ⟨x4, r4, rfl, o4, u4⟩
    go_wp2_with fail
    refine (toIntSS_c _ p _ (H2.out.ext (u3.trans u4)) S2.out.len S2.out.row).mono ?_
    rintro e w5 ⟨x5, r5, rfl, o5, u5⟩
    have u5' := (u3.trans u4).trans u5
    go_wp2_with fail
    refine (implIsPattern_c _ _ x p _ (o4.grid.ext u5) o5.grid).mono ?_
    rintro e w6 ⟨rfl, rfl⟩
    go_wp2_with fail
    refine (toIntSS_c _ x _ (H1.out.ext u5') S1.out.len S1.out.row).mono ?_
    rintro e w7 ⟨x7, r7, rfl, o7, u7⟩
    go_wp2_with fail
    refine (eqIntSS_b true _ _ x x _ (by simp) ((o4.grid.ext u5).ext u7) o7.grid).mono ?_
    rintro e w8 ⟨rfl, d8⟩
    have u8 := (u5'.trans u7).trans d8.ext
    go_wp2_with fail
    refine (toIntSS_c _ p _ (H2.out.ext u8) S2.out.len S2.out.row).mono ?_
    rintro e w9 ⟨x9, r9, rfl, o9, u9⟩
    go_wp2_with fail
    refine (eqIntSS_b true _ _ p p _ (by simp) (o5.grid.ext ((u7.trans d8.ext).trans u9)) o9.grid).mono ?_
    rintro e w10 ⟨rfl, d10⟩
    go_wp2
    go_ret
    exact ⟨rfl, (u8.trans u9).trans d10.ext⟩
end Go.Proofs.Ytgcahhbnjedheaa
