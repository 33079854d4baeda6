/- FnFractions: the law. -/
import Derived.Test.YtmhofeljieicaaaDrwL
namespace Go.Proofs.Ytmhofeljieicaaa
open Go.RowKit

set_option maxHeartbeats 6400000 in
set_option maxRecDepth 100000 in
theorem lawFractions_c (v1 v2 : Value) (xs ys : List Int) (w : World) (h1 : Bytes w v1 xs) (h2 : Bytes w v2 ys) (hx : WfB xs) (hy : WfB ys) :
    Calls Try.prog 3 #[v1, v2] w fun e w' => e = .returned (.bool true) ∧ Ext w w' := by
  have H1 := Lib.hid h1
  have H2 := Lib.hid h2
  have HX := Lib.hid hx; clear hx
  have HY := Lib.hid hy; clear hy
  obtain ⟨ao, cap, rfl, p1, p2, p3⟩ := h1
  obtain ⟨ao', cap', rfl, q1, q2, q3⟩ := h2
  clear p3 q3
  have hl1 : xs.length ≤ 9223372036854775807 := by omega
  have hl2 : ys.length ≤ 9223372036854775807 := by omega
  clear p1 p2 q1 q2
  obtain ⟨S, hS⟩ : ∃ S, IntKind.i64.wrap ((xs.length : Int) + (ys.length : Int)) = S := ⟨_, rfl⟩
  by_cases hz : 1048576 < S
  · have hz' : decide (1048576 < S) = true := decide_eq_true hz
    go_enter Try.func3, Try.ntmps3
    go_wp2
    go_ret
    exact ⟨rfl, Ext.refl _⟩
  have hz' : decide (1048576 < S) = false := decide_eq_false hz
  go_enter Try.func3, Try.ntmps3
  go_wp2_with fail
  refine (drawAdd_c _ xs _ H1.out HX.out hl1).mono ?_
  rintro e w1 ⟨⟨a, b, c, d, rfl⟩, u1⟩
  clear hS hz hz' H1 HX hl1

  have k5 := (Box.new w1 24 #[.int .i64 a, .int .i64 b] rfl).alloc (.cells #[.int .i64 c, .int .i64 d] 24)
  have k6 := Box.new (w1.alloc (.cells #[.int .i64 a, .int .i64 b] 24)) 24 #[.int .i64 c, .int .i64 d] (b := w1.heap.size + 1) (by simp)
  have g1 := ((u1.alloc (.cells #[.int .i64 a, .int .i64 b] 24)).alloc (.cells #[.int .i64 c, .int .i64 d] 24))
  have c50 := k5.cell 0 (by simp)
  have c51 := k5.cell 1 (by simp)
  have c60 := k6.cell 0 (by simp)
  have c61 := k6.cell 1 (by simp)
  obtain ⟨XN, hXN⟩ : ∃ X, adN a b c d = X := ⟨_, rfl⟩
  obtain ⟨XD, hXD⟩ : ∃ X, adD a b c d = X := ⟨_, rfl⟩
  obtain ⟨XB, hXB⟩ : ∃ X, adB a b c d = X := ⟨_, rfl⟩
  have hp := @ad_undone a b c d
  have ha1 := implAdd_t a b c d
  have ha2 := specAddFrac_t a b c d
  rw [hXN, hXD, hXB] at hp ha1 ha2
  have HP := Lib.hid hp; clear hp
  have HA1 := Lib.hid ha1; clear ha1
  have HA2 := Lib.hid ha2; clear ha2
  clear hXN hXD hXB
  go_wp2_with fail
  refine (HA1.out _).mono ?_
  rintro e w2 ⟨rfl, u2⟩
  have k7 := Box.new w2 24 #[.int .i64 XN, .int .i64 XD] rfl
  have e2 := u2.alloc (.cells #[.int .i64 XN, .int .i64 XD] 24)
  have m5 := k5.ext e2
  have m6 := k6.ext e2
  have g2 := g1.trans e2
  clear c50 c51 c60 c61 k5 k6 g1 e2
  have c50 := m5.cell 0 (by simp)
  have c51 := m5.cell 1 (by simp)
  have c60 := m6.cell 0 (by simp)
  have c61 := m6.cell 1 (by simp)
  go_wp2_with fail
  refine (HA2.out _).mono ?_
  rintro e w3 ⟨rfl, u3⟩
  clear HA1 HA2 c50 c51 c60 c61 u1 u2
  have k9 := Box.new w3 24 #[.int .i64 XN, .int .i64 XD] rfl
  have e3 := u3.alloc (.cells #[.int .i64 XN, .int .i64 XD] 24)
  have k5 := m5.ext e3
  have k6 := m6.ext e3
  have n7 := k7.ext e3
  have g3 := g2.trans e3
  clear m5 m6 k7 g2 e3 u3
  go_wp2_with fail
  refine (drawDiv_c _ ys _ (H2.out.ext g3) HY.out hl2).mono ?_
  rintro e w4 ⟨⟨r, s, t, v, rfl⟩, u4⟩
  clear H2 HY hl2
  have k11 := (Box.new w4 24 #[.int .i64 r, .int .i64 s] rfl).alloc (.cells #[.int .i64 t, .int .i64 v] 24)
  have k12 := Box.new (w4.alloc (.cells #[.int .i64 r, .int .i64 s] 24)) 24 #[.int .i64 t, .int .i64 v] (b := w4.heap.size + 1) (by simp)
  have e4 := (u4.alloc (.cells #[.int .i64 r, .int .i64 s] 24)).alloc (.cells #[.int .i64 t, .int .i64 v] 24)
  have m5 := k5.ext e4
  have m6 := k6.ext e4
  have k7 := n7.ext e4
  have n9 := k9.ext e4
  have g4 := g3.trans e4
  clear k5 k6 n7 k9 g3 e4 u4
  have c110 := k11.cell 0 (by simp)
  have c111 := k11.cell 1 (by simp)
  have c120 := k12.cell 0 (by simp)
  have c121 := k12.cell 1 (by simp)
  obtain ⟨YN, hYN⟩ : ∃ X, dvN r s t v = X := ⟨_, rfl⟩
  obtain ⟨YD, hYD⟩ : ∃ X, dvD r s t v = X := ⟨_, rfl⟩
  obtain ⟨YB, hYB⟩ : ∃ X, dvB r s t v = X := ⟨_, rfl⟩
  have hq := @dv_undone r s t v
  have hd1 := implDiv_t r s t v
  have hd2 := specDivFrac_t r s t v
  rw [hYN, hYD, hYB] at hq hd1 hd2
  have HQ := Lib.hid hq; clear hq
  have HD1 := Lib.hid hd1; clear hd1
  have HD2 := Lib.hid hd2; clear hd2
  clear hYN hYD hYB
  go_wp2_with fail
  refine (HD1.out _).mono ?_
  rintro e w5 ⟨rfl, u5⟩
  have k13 := Box.new w5 24 #[.int .i64 YN, .int .i64 YD] rfl
  have e5 := u5.alloc (.cells #[.int .i64 YN, .int .i64 YD] 24)
  have k5 := m5.ext e5
  have k6 := m6.ext e5
  have n7 := k7.ext e5
  have k9 := n9.ext e5
  have m11 := k11.ext e5
  have m12 := k12.ext e5
  have g5 := g4.trans e5
  clear m5 m6 k7 n9 k11 k12 g4 e5 u5 c110 c111 c120 c121
  have c110 := m11.cell 0 (by simp)
  have c111 := m11.cell 1 (by simp)
  have c120 := m12.cell 0 (by simp)
  have c121 := m12.cell 1 (by simp)
  go_wp2_with fail
  refine (HD2.out _).mono ?_
  rintro e w6 ⟨rfl, u6⟩
  clear HD1 HD2 c110 c111 c120 c121
  have k15 := Box.new w6 24 #[.int .i64 YN, .int .i64 YD] rfl
  have e6 := u6.alloc (.cells #[.int .i64 YN, .int .i64 YD] 24)
  have m5 := k5.ext e6
  have m6 := k6.ext e6
  have k7 := n7.ext e6
  have n9 := k9.ext e6
  have k11 := m11.ext e6
  have k12 := m12.ext e6
  have n13 := k13.ext e6
  have g6 := g5.trans e6
  clear k5 k6 n7 k9 m11 m12 k13 g5 e6 u6
  have c70 := k7.cell 0 (by simp)
  have c71 := k7.cell 1 (by simp)
  have c90 := n9.cell 0 (by simp)
  have c91 := n9.cell 1 (by simp)
  have c130 := n13.cell 0 (by simp)
  have c131 := n13.cell 1 (by simp)
  have c150 := k15.cell 0 (by simp)
  have c151 := k15.cell 1 (by simp)
  have c110 := k11.cell 0 (by simp)
  have c111 := k11.cell 1 (by simp)
  have c120 := k12.cell 0 (by simp)
  have c121 := k12.cell 1 (by simp)
  have bx : (XB != XB) = false := by simp
  have by' : (YB != YB) = false := by simp

  cases YB
  · have GG := g6

    cases XB
    · go_wp2
      go_ret
      exact ⟨rfl, GG⟩
    obtain ⟨t1, t2, t3, t4, t5, t6, t7⟩ := HP.out rfl
    have hs : ∀ w, Calls Try.prog 13 #[.agg #[.int .i64 XN, .int .i64 XD], .agg #[.int .i64 c, .int .i64 d]] w fun e w' => e = .returned (.tuple #[.agg #[.int .i64 a, .int .i64 b], .bool true]) ∧ Ext w w' := by
      intro w; have := SubFrac_y XN XD c d w t3 t2; rw [t4, t5, t6] at this; exact this
    have HS := Lib.hid hs; clear hs
    have hc1 : ∀ w, Calls Try.prog 14 #[.agg #[.int .i64 XN, .int .i64 XD], .agg #[.int .i64 a, .int .i64 b]] w fun e w' => e = .returned (.tuple #[.int .i64 (sgn (c * 1 - 0 * d)), .bool true]) ∧ Ext w w' := by
      intro w; have := compare_c XN XD a b w t3 t1; rw [t7] at this; exact this
    have hc2 : ∀ w, Calls Try.prog 14 #[.agg #[.int .i64 c, .int .i64 d], .agg #[.int .i64 0, .int .i64 1]] w fun e w' => e = .returned (.tuple #[.int .i64 (sgn (c * 1 - 0 * d)), .bool true]) ∧ Ext w w' := by
      intro w; exact compare_c c d 0 1 w t2 (by decide)
    obtain ⟨Z, hZ⟩ : ∃ Z, sgn (c * 1 - 0 * d) = Z := ⟨_, rfl⟩
    rw [hZ] at hc1 hc2
    clear hZ t1 t2 t3 t4 t5 t6 t7
    have HC1 := Lib.hid hc1; clear hc1
    have HC2 := Lib.hid hc2; clear hc2
    have c50 := m5.cell 0 (by simp)
    have c51 := m5.cell 1 (by simp)
    have c60 := m6.cell 0 (by simp)
    have c61 := m6.cell 1 (by simp)
    have d70 := k7.cell 0 (by simp)
    have d71 := k7.cell 1 (by simp)
    go_wp2_with fail
    refine (HS.out _).mono ?_
    rintro e w7 ⟨rfl, u7⟩
    have k19 := Box.new w7 24 #[.int .i64 a, .int .i64 b] rfl
    have e7 := u7.alloc (.cells #[.int .i64 a, .int .i64 b] 24)
    have k5 := m5.ext e7
    have k6 := m6.ext e7
    have n7 := k7.ext e7
    have g7 := GG.trans e7
    clear m5 m6 k7 c50 c51 c60 c61 d70 d71
    have c50 := k5.cell 0 (by simp)
    have c51 := k5.cell 1 (by simp)
    have c60 := k6.cell 0 (by simp)
    have c61 := k6.cell 1 (by simp)
    have c70 := n7.cell 0 (by simp)
    have c71 := n7.cell 1 (by simp)
    go_wp2_with fail
    refine (HC1.out _).mono ?_
    rintro e w8 ⟨rfl, u8⟩
    clear c50 c51 c60 c61 c70 c71
    have m5 := k5.ext u8
    have m6 := k6.ext u8
    have m19 := k19.ext u8
    have c60 := m6.cell 0 (by simp)
    have c61 := m6.cell 1 (by simp)
    go_wp2_with fail
    refine (HC2.out _).mono ?_
    rintro e w9 ⟨rfl, u9⟩
    clear c60 c61
    have j5 := m5.ext u9
    have j19 := m19.ext u9
    have c50 := j5.cell 0 (by simp)
    have c51 := j5.cell 1 (by simp)
    have c190 := j19.cell 0 (by simp)
    have c191 := j19.cell 1 (by simp)
    go_wp2
    go_ret
    exact ⟨by simp, (g7.trans u8).trans u9⟩
  obtain ⟨s1, s2, s3, s4, s5, s6⟩ := HQ.out rfl
  have hm : ∀ w, Calls Try.prog 11 #[.agg #[.int .i64 YN, .int .i64 YD], .agg #[.int .i64 t, .int .i64 v]] w fun e w' => e = .returned (.tuple #[.agg #[.int .i64 r, .int .i64 s], .bool true]) ∧ Ext w w' := by
    intro w; have := MulFrac_y YN YD t v w s3 s2; rw [s4, s5, s6] at this; exact this
  have HM := Lib.hid hm; clear hm
  have HG := Lib.hid s3; clear s1 s2 s3 s4 s5 s6
  go_wp2_with fail
  refine (HM.out _).mono ?_
  rintro e wm ⟨rfl, um⟩
  have k17 := Box.new wm 24 #[.int .i64 r, .int .i64 s] rfl
  have em := um.alloc (.cells #[.int .i64 r, .int .i64 s] 24)
  have n5 := m5.ext em
  have n6 := m6.ext em
  have n7 := k7.ext em
  have n11 := k11.ext em
  have l13 := n13.ext em
  have gm := g6.trans em
  clear c70 c71 c90 c91 c130 c131 c150 c151 c110 c111 c120 c121 m5 m6 k7
  have c110 := n11.cell 0 (by simp)
  have c111 := n11.cell 1 (by simp)
  have c130 := l13.cell 0 (by simp)
  have c131 := l13.cell 1 (by simp)
  have c170 := k17.cell 0 (by simp)
  have c171 := k17.cell 1 (by simp)
  go_wp2_with fail
  refine (isFrac_b true YN YD _ HG.out).mono ?_
  rintro e wn ⟨rfl, un⟩
  have m5 := n5.ext un
  have m6 := n6.ext un
  have k7 := n7.ext un
  have GG := gm.trans un
  clear c110 c111 c130 c131 c170 c171
  cases XB
  · go_wp2
    go_ret
    exact ⟨rfl, GG⟩
  obtain ⟨t1, t2, t3, t4, t5, t6, t7⟩ := HP.out rfl
  have hs : ∀ w, Calls Try.prog 13 #[.agg #[.int .i64 XN, .int .i64 XD], .agg #[.int .i64 c, .int .i64 d]] w fun e w' => e = .returned (.tuple #[.agg #[.int .i64 a, .int .i64 b], .bool true]) ∧ Ext w w' := by
    intro w; have := SubFrac_y XN XD c d w t3 t2; rw [t4, t5, t6] at this; exact this
  have HS := Lib.hid hs; clear hs
  have hc1 : ∀ w, Calls Try.prog 14 #[.agg #[.int .i64 XN, .int .i64 XD], .agg #[.int .i64 a, .int .i64 b]] w fun e w' => e = .returned (.tuple #[.int .i64 (sgn (c * 1 - 0 * d)), .bool true]) ∧ Ext w w' := by
    intro w; have := compare_c XN XD a b w t3 t1; rw [t7] at this; exact this
  have hc2 : ∀ w, Calls Try.prog 14 #[.agg #[.int .i64 c, .int .i64 d], .agg #[.int .i64 0, .int .i64 1]] w fun e w' => e = .returned (.tuple #[.int .i64 (sgn (c * 1 - 0 * d)), .bool true]) ∧ Ext w w' := by
    intro w; exact compare_c c d 0 1 w t2 (by decide)
  obtain ⟨Z, hZ⟩ : ∃ Z, sgn (c * 1 - 0 * d) = Z := ⟨_, rfl⟩
  rw [hZ] at hc1 hc2
  clear hZ t1 t2 t3 t4 t5 t6 t7
  have HC1 := Lib.hid hc1; clear hc1
  have HC2 := Lib.hid hc2; clear hc2
  have c50 := m5.cell 0 (by simp)
  have c51 := m5.cell 1 (by simp)
  have c60 := m6.cell 0 (by simp)
  have c61 := m6.cell 1 (by simp)
  have d70 := k7.cell 0 (by simp)
  have d71 := k7.cell 1 (by simp)
  go_wp2_with fail
  refine (HS.out _).mono ?_
  rintro e w7 ⟨rfl, u7⟩
  have k19 := Box.new w7 24 #[.int .i64 a, .int .i64 b] rfl
  have e7 := u7.alloc (.cells #[.int .i64 a, .int .i64 b] 24)
  have k5 := m5.ext e7
  have k6 := m6.ext e7
  have n7 := k7.ext e7
  have g7 := GG.trans e7
  clear m5 m6 k7 c50 c51 c60 c61 d70 d71
  have c50 := k5.cell 0 (by simp)
  have c51 := k5.cell 1 (by simp)
  have c60 := k6.cell 0 (by simp)
  have c61 := k6.cell 1 (by simp)
  have c70 := n7.cell 0 (by simp)
  have c71 := n7.cell 1 (by simp)
  go_wp2_with fail
  refine (HC1.out _).mono ?_
  rintro e w8 ⟨rfl, u8⟩
  clear c50 c51 c60 c61 c70 c71
  have m5 := k5.ext u8
  have m6 := k6.ext u8
  have m19 := k19.ext u8
  have c60 := m6.cell 0 (by simp)
  have c61 := m6.cell 1 (by simp)
  go_wp2_with fail
  refine (HC2.out _).mono ?_
  rintro e w9 ⟨rfl, u9⟩
  clear c60 c61
  have j5 := m5.ext u9
  have j19 := m19.ext u9
  have c50 := j5.cell 0 (by simp)
  have c51 := j5.cell 1 (by simp)
  have c190 := j19.cell 0 (by simp)
  have c191 := j19.cell 1 (by simp)
  go_wp2
  go_ret
  exact ⟨by simp, (g7.trans u8).trans u9⟩

end Go.Proofs.Ytmhofeljieicaaa
