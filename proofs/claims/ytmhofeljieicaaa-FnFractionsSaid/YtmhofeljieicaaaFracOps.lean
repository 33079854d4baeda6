/- The operations on fractions: IsFrac, AddFrac .., the spec's and the program's. -/
import Derived.Test.YtmhofeljieicaaaFrac
import Derived.Test.YtmhofeljieicaaaFracQ
import Derived.Test.YtmhofeljieicaaaGrid
namespace Go.Proofs.Ytmhofeljieicaaa
open Go.RowKit

theorem inR_of {x : Int} (h : -2000000000000000000 ≤ x ∧ x ≤ 2000000000000000000) : InR x := by unfold InR; omega
set_option maxHeartbeats 1600000 in
theorem isFrac_b (b : Bool) (n d : Int) (w : World) (hb : goodF n d = b) :
    Calls Try.prog 12 #[.agg #[.int .i64 n, .int .i64 d]] w fun e w' => e = .returned (.bool b) ∧ Ext w w' := by
  subst hb
  have u0 := (Ext.refl w).alloc (.cells #[.int .i64 n, .int .i64 d] 24)
  have b0 := Box.new w 24 #[.int .i64 n, .int .i64 d] rfl
  have c0 := b0.cell 0 (by simp)
  have c1 := b0.cell 1 (by simp)
  by_cases h1 : 1 ≤ d
  case neg =>
    have e : goodF n d = false := by simp [goodF, h1]
    have HE := Lib.hid e; clear e
    go_enter Try.func12, Try.ntmps12
    go_wp2
    go_ret
    exact ⟨ret_bool HE.out.symm, u0⟩
  by_cases h2 : d ≤ 1000000000
  case neg =>
    have e : goodF n d = false := by simp [goodF, h2]
    have HE := Lib.hid e; clear e
    go_enter Try.func12, Try.ntmps12
    go_wp2
    go_ret
    exact ⟨ret_bool HE.out.symm, u0⟩
  by_cases h3 : -1000000000 ≤ n
  case neg =>
    have e : goodF n d = false := by simp [goodF, h3]
    have HE := Lib.hid e; clear e
    go_enter Try.func12, Try.ntmps12
    go_wp2
    go_ret
    exact ⟨ret_bool HE.out.symm, u0⟩
  by_cases h4 : n ≤ 1000000000
  case neg =>
    have e : goodF n d = false := by simp [goodF, h4]
    have HE := Lib.hid e; clear e
    go_enter Try.func12, Try.ntmps12
    go_wp2
    go_ret
    exact ⟨ret_bool HE.out.symm, u0⟩
  have e : goodF n d = decide ((fg n d : Int) = 1) := by
    have : decide ((fg n d : Int) = 1) = decide (fg n d = 1) := by apply decide_eq_decide.2; omega
    rw [this]; simp [goodF, h1, h2, h3, h4]
  have HE := Lib.hid e; clear e
  have HN : InR n := by unfold InR; omega
  have HD : InR d := by unfold InR; omega
  have HN' := Lib.hid HN; clear HN
  have HD' := Lib.hid HD; clear HD
  go_enter Try.func12, Try.ntmps12
  go_wp2_with fail
  refine (gcdOf_c n d _ HN'.out HD'.out).mono ?_
  rintro e w' ⟨rfl, m, rfl⟩
  go_wp2
  go_ret
  exact ⟨ret_bool (by rw [HE.out]; first | rfl | simp), u0.drewN m⟩
set_option maxHeartbeats 1600000 in
theorem fGood_a (b : Bool) (n d : Int) (w : World) (hb : goodF n d = b) :
    Calls Try.prog 36 #[.agg #[.int .i64 n, .int .i64 d]] w fun e w' => e = .returned (.bool b) ∧ Ext w w' := by
  have u0 := (Ext.refl w).alloc (.cells #[.int .i64 n, .int .i64 d] 24)
  have b0 := Box.new w 24 #[.int .i64 n, .int .i64 d] rfl
  have c0 := b0.cell 0 (by simp)
  have c1 := b0.cell 1 (by simp)
  cases h1 : (decide (1 ≤ d) && decide (d ≤ 1000000000))
  · have e : goodF n d = false := by unfold goodF; rw [← Bool.and_assoc, h1]; rfl
    rw [e] at hb; subst hb; clear e
    have H1 := Lib.hid h1; clear h1
    go_enter Try.func36, Try.ntmps36
    go_wp2_with fail
    refine (l1In_b false d 1 1000000000 _ H1.out).mono ?_
    rintro e w' ⟨rfl, rfl⟩
    go_wp2
    go_ret
    exact ⟨rfl, u0⟩
  · cases h2 : (decide (-1000000000 ≤ n) && decide (n ≤ 1000000000))
    · have e : goodF n d = false := by
        unfold goodF
        rw [← Bool.and_assoc, h1, Bool.true_and, ← Bool.and_assoc, h2]; rfl
      rw [e] at hb; subst hb; clear e
      have H1 := Lib.hid h1; clear h1
      have H2 := Lib.hid h2; clear h2
      go_enter Try.func36, Try.ntmps36
      go_wp2_with fail
      refine (l1In_b true d 1 1000000000 _ H1.out).mono ?_
      rintro e w' ⟨rfl, rfl⟩
      go_wp2_with fail
      refine (l1In_b false n (-1000000000) 1000000000 _ H2.out).mono ?_
      rintro e w' ⟨rfl, rfl⟩
      go_wp2
      go_ret
      exact ⟨rfl, u0⟩
    · have g1 : 1 ≤ d ∧ d ≤ 1000000000 := by simpa using h1
      have g2 : -1000000000 ≤ n ∧ n ≤ 1000000000 := by simpa using h2
      exact fGood_b b n d w hb (by unfold InR; omega) (by unfold InR; omega)

set_option maxHeartbeats 1600000 in
theorem AddFrac_y (a b c d : Int) (w : World) (ha : goodF a b = true) (hc : goodF c d = true) :
    Calls Try.prog 6 #[.agg #[.int .i64 a, .int .i64 b], .agg #[.int .i64 c, .int .i64 d]] w fun e w' => e = .returned (.tuple #[.agg #[.int .i64 (fVN (a * d + c * b) (b * d)), .int .i64 (fVD (a * d + c * b) (b * d))], .bool (fB (a * d + c * b) (b * d))]) ∧ Ext w w' := by
  have u0 := (((Ext.refl w).alloc (.cells #[.int .i64 a, .int .i64 b] 24)).alloc (.cells #[.int .i64 c, .int .i64 d] 24)).alloc (.cells #[.int .i64 0, .int .i64 0] 24)
  have b2 := ((Box.new w 24 #[.int .i64 a, .int .i64 b] rfl).alloc (.cells #[.int .i64 c, .int .i64 d] 24)).alloc (.cells #[.int .i64 0, .int .i64 0] 24)
  have b3 := (Box.new (w.alloc (.cells #[.int .i64 a, .int .i64 b] 24)) 24 #[.int .i64 c, .int .i64 d] (b := w.heap.size + 1) (by simp)).alloc (.cells #[.int .i64 0, .int .i64 0] 24)
  have b4 := Box.new ((w.alloc (.cells #[.int .i64 a, .int .i64 b] 24)).alloc (.cells #[.int .i64 c, .int .i64 d] 24)) 24 #[.int .i64 0, .int .i64 0] (b := w.heap.size + 2) (by simp)
  obtain ⟨h1, h2, h3, h4, _⟩ := goodF_bounds ha
  obtain ⟨g1, g2, g3, g4, _⟩ := goodF_bounds hc
  have m1 := mul_bound (a := a) (b := d) ⟨h3, h4⟩ ⟨by omega, g2⟩
  have m2 := mul_bound (a := c) (b := b) ⟨g3, g4⟩ ⟨by omega, h2⟩
  have m3 := mul_bound (a := b) (b := d) ⟨by omega, h2⟩ ⟨by omega, g2⟩
  have m4 : 0 < b * d := Int.mul_pos (by omega) (by omega)
  have hw0 : IntKind.i64.wrap (a * d) = a * d := IntWalk.i64_in _ (by omega)
  have hw1 : IntKind.i64.wrap (c * b) = c * b := IntWalk.i64_in _ (by omega)
  have hw2 : IntKind.i64.wrap (a * d + c * b) = a * d + c * b := IntWalk.i64_in _ (by omega)
  have hw3 : IntKind.i64.wrap (b * d) = b * d := IntWalk.i64_in _ (by omega)
  have HR := Lib.hid (show b * d ≠ 0 ∧ InR (a * d + c * b) ∧ InR (b * d) from ⟨by omega, by unfold InR; omega, by unfold InR; omega⟩)
  clear m1 m3 m4 m2
  have HA := Lib.hid ha; clear ha
  have HC := Lib.hid hc; clear hc
  go_enter Try.func6, Try.ntmps6
  go_wp2_with fail
  refine (isFrac_b true a b _ HA.out).mono ?_
  rintro e w1 ⟨rfl, u1⟩
  have x2 := b2.ext u1
  have x3 := b3.ext u1
  have x4 := b4.ext u1
  have e20 := x2.cell 0 (by simp)
  have e21 := x2.cell 1 (by simp)
  have e30 := x3.cell 0 (by simp)
  have e31 := x3.cell 1 (by simp)
  have e40 := x4.cell 0 (by simp)
  have e41 := x4.cell 1 (by simp)
  go_wp2_with fail
  refine (isFrac_b true c d _ HC.out).mono ?_
  rintro e w2 ⟨rfl, u2⟩
  have y2 := x2.ext u2
  have y3 := x3.ext u2
  have y4 := x4.ext u2
  clear e20 e21 e30 e31 e40 e41
  have e20 := y2.cell 0 (by simp)
  have e21 := y2.cell 1 (by simp)
  have e30 := y3.cell 0 (by simp)
  have e31 := y3.cell 1 (by simp)
  have e40 := y4.cell 0 (by simp)
  have e41 := y4.cell 1 (by simp)
  go_wp2_with fail
  refine (reduced_c (a * d + c * b) (b * d) _ HR.out.1 HR.out.2.1 HR.out.2.2).mono ?_
  rintro e w3 ⟨rfl, u3⟩
  have z2 := y2.ext u3
  have z3 := y3.ext u3
  have z4 := y4.ext u3
  clear e20 e21 e30 e31 e40 e41
  have e40 := z4.cell 0 (by simp)
  have e41 := z4.cell 1 (by simp)
  have f0 := z4.free 0
  have f1 := z4.free 1
  go_wp2
  refine bodyPost_ret (v := .tuple #[.agg #[.int .i64 (fVN (a * d + c * b) (b * d)), .int .i64 (fVD (a * d + c * b) (b * d))], .bool (fB (a * d + c * b) (b * d))]) (by simp [results, Try.results6, go_sem, e40, e41]) rfl ⟨rfl, ?_⟩
  exact ((((u0.trans u1).trans u2).trans u3).setCell _ (by simp; omega)).setCell _ (by simp; omega)

set_option maxHeartbeats 6400000 in
theorem AddFrac_n (a b c d : Int) (w : World) (h : (goodF a b && goodF c d) = false) :
    Calls Try.prog 6 #[.agg #[.int .i64 a, .int .i64 b], .agg #[.int .i64 c, .int .i64 d]] w fun e w' => e = .returned (.tuple #[.agg #[.int .i64 (0), .int .i64 (0)], .bool (false)]) ∧ Ext w w' := by
  have u0 := (((Ext.refl w).alloc (.cells #[.int .i64 a, .int .i64 b] 24)).alloc (.cells #[.int .i64 c, .int .i64 d] 24)).alloc (.cells #[.int .i64 0, .int .i64 0] 24)
  have b2 := ((Box.new w 24 #[.int .i64 a, .int .i64 b] rfl).alloc (.cells #[.int .i64 c, .int .i64 d] 24)).alloc (.cells #[.int .i64 0, .int .i64 0] 24)
  have b3 := (Box.new (w.alloc (.cells #[.int .i64 a, .int .i64 b] 24)) 24 #[.int .i64 c, .int .i64 d] (b := w.heap.size + 1) (by simp)).alloc (.cells #[.int .i64 0, .int .i64 0] 24)
  have b4 := Box.new ((w.alloc (.cells #[.int .i64 a, .int .i64 b] 24)).alloc (.cells #[.int .i64 c, .int .i64 d] 24)) 24 #[.int .i64 0, .int .i64 0] (b := w.heap.size + 2) (by simp)
  cases ha : goodF a b
  · have HA := Lib.hid ha; clear ha
    go_enter Try.func6, Try.ntmps6
    go_wp2_with fail
    refine (isFrac_b false a b _ HA.out).mono ?_
    rintro e w1 ⟨rfl, u1⟩
    have x2 := b2.ext u1
    have x3 := b3.ext u1
    have x4 := b4.ext u1
    have e40 := x4.cell 0 (by simp)
    have e41 := x4.cell 1 (by simp)
    have f0 := x4.free 0
    have f1 := x4.free 1
    go_wp2
    refine bodyPost_ret (v := .tuple #[.agg #[.int .i64 0, .int .i64 0], .bool false]) (by simp [results, Try.results6, go_sem, e40, e41]) rfl ⟨rfl, ?_⟩
    exact ((u0.trans u1).setCell _ (by simp; omega)).setCell _ (by simp; omega)
  rw [ha, Bool.true_and] at h
  have HA := Lib.hid ha; clear ha
  have HC := Lib.hid h; clear h
  go_enter Try.func6, Try.ntmps6
  go_wp2_with fail
  refine (isFrac_b true a b _ HA.out).mono ?_
  rintro e w1 ⟨rfl, u1⟩
  have x2 := b2.ext u1
  have x3 := b3.ext u1
  have x4 := b4.ext u1
  have e20 := x2.cell 0 (by simp)
  have e21 := x2.cell 1 (by simp)
  have e30 := x3.cell 0 (by simp)
  have e31 := x3.cell 1 (by simp)
  have e40 := x4.cell 0 (by simp)
  have e41 := x4.cell 1 (by simp)
  go_wp2_with fail
  refine (isFrac_b false c d _ HC.out).mono ?_
  rintro e w2 ⟨rfl, u2⟩
  have y2 := x2.ext u2
  have y3 := x3.ext u2
  have y4 := x4.ext u2
  clear e20 e21 e30 e31 e40 e41
  have e20 := y2.cell 0 (by simp)
  have e21 := y2.cell 1 (by simp)
  have e30 := y3.cell 0 (by simp)
  have e31 := y3.cell 1 (by simp)
  have e40 := y4.cell 0 (by simp)
  have e41 := y4.cell 1 (by simp)
  have f0 := y4.free 0
  have f1 := y4.free 1
  go_wp2
  refine bodyPost_ret (v := .tuple #[.agg #[.int .i64 0, .int .i64 0], .bool false]) (by simp [results, Try.results6, go_sem, e40, e41]) rfl ⟨rfl, ?_⟩
  exact (((u0.trans u1).trans u2).setCell _ (by simp; omega)).setCell _ (by simp; omega)

set_option maxHeartbeats 1600000 in
theorem fAdd_y (a b c d : Int) (w : World) (ha : goodF a b = true) (hc : goodF c d = true) :
    Calls Try.prog 22 #[.agg #[.int .i64 a, .int .i64 b], .agg #[.int .i64 c, .int .i64 d]] w fun e w' => e = .returned (.tuple #[.agg #[.int .i64 (fVN (a * d + c * b) (b * d)), .int .i64 (fVD (a * d + c * b) (b * d))], .bool (fB (a * d + c * b) (b * d))]) ∧ Ext w w' := by
  have u0 := (((Ext.refl w).alloc (.cells #[.int .i64 a, .int .i64 b] 24)).alloc (.cells #[.int .i64 c, .int .i64 d] 24)).alloc (.cells #[.int .i64 0, .int .i64 0] 24)
  have b2 := ((Box.new w 24 #[.int .i64 a, .int .i64 b] rfl).alloc (.cells #[.int .i64 c, .int .i64 d] 24)).alloc (.cells #[.int .i64 0, .int .i64 0] 24)
  have b3 := (Box.new (w.alloc (.cells #[.int .i64 a, .int .i64 b] 24)) 24 #[.int .i64 c, .int .i64 d] (b := w.heap.size + 1) (by simp)).alloc (.cells #[.int .i64 0, .int .i64 0] 24)
  have b4 := Box.new ((w.alloc (.cells #[.int .i64 a, .int .i64 b] 24)).alloc (.cells #[.int .i64 c, .int .i64 d] 24)) 24 #[.int .i64 0, .int .i64 0] (b := w.heap.size + 2) (by simp)
  obtain ⟨h1, h2, h3, h4, _⟩ := goodF_bounds ha
  obtain ⟨g1, g2, g3, g4, _⟩ := goodF_bounds hc
  have m1 := mul_bound (a := a) (b := d) ⟨h3, h4⟩ ⟨by omega, g2⟩
  have m2 := mul_bound (a := c) (b := b) ⟨g3, g4⟩ ⟨by omega, h2⟩
  have m3 := mul_bound (a := b) (b := d) ⟨by omega, h2⟩ ⟨by omega, g2⟩
  have m4 : 0 < b * d := Int.mul_pos (by omega) (by omega)
  have hw0 : IntKind.i64.wrap (a * d) = a * d := IntWalk.i64_in _ (by omega)
  have hw1 : IntKind.i64.wrap (c * b) = c * b := IntWalk.i64_in _ (by omega)
  have hw2 : IntKind.i64.wrap (a * d + c * b) = a * d + c * b := IntWalk.i64_in _ (by omega)
  have hw3 : IntKind.i64.wrap (b * d) = b * d := IntWalk.i64_in _ (by omega)
  have HR := Lib.hid (show b * d ≠ 0 ∧ InR (a * d + c * b) ∧ InR (b * d) from ⟨by omega, by unfold InR; omega, by unfold InR; omega⟩)
  clear m1 m3 m4 m2
  have e20 := b2.cell 0 (by simp)
  have e21 := b2.cell 1 (by simp)
  have e30 := b3.cell 0 (by simp)
  have e31 := b3.cell 1 (by simp)
  have e40 := b4.cell 0 (by simp)
  have e41 := b4.cell 1 (by simp)
  clear ha hc
  go_enter Try.func22, Try.ntmps22
  go_wp2_with fail
  refine (fMake_c (a * d + c * b) (b * d) _ HR.out.1 HR.out.2.1 HR.out.2.2).mono ?_
  rintro e w3 ⟨rfl, u3⟩
  have z2 := b2.ext u3
  have z3 := b3.ext u3
  have z4 := b4.ext u3
  clear e20 e21 e30 e31 e40 e41
  have e40 := z4.cell 0 (by simp)
  have e41 := z4.cell 1 (by simp)
  have f0 := z4.free 0
  have f1 := z4.free 1
  go_wp2
  refine bodyPost_ret (v := .tuple #[.agg #[.int .i64 (fVN (a * d + c * b) (b * d)), .int .i64 (fVD (a * d + c * b) (b * d))], .bool (fB (a * d + c * b) (b * d))]) (by simp [results, Try.results22, go_sem, e40, e41]) rfl ⟨rfl, ?_⟩
  exact ((u0.trans u3).setCell _ (by simp; omega)).setCell _ (by simp; omega)

set_option maxHeartbeats 1600000 in
theorem SubFrac_y (a b c d : Int) (w : World) (ha : goodF a b = true) (hc : goodF c d = true) :
    Calls Try.prog 13 #[.agg #[.int .i64 a, .int .i64 b], .agg #[.int .i64 c, .int .i64 d]] w fun e w' => e = .returned (.tuple #[.agg #[.int .i64 (fVN (a * d - c * b) (b * d)), .int .i64 (fVD (a * d - c * b) (b * d))], .bool (fB (a * d - c * b) (b * d))]) ∧ Ext w w' := by
  have u0 := (((Ext.refl w).alloc (.cells #[.int .i64 a, .int .i64 b] 24)).alloc (.cells #[.int .i64 c, .int .i64 d] 24)).alloc (.cells #[.int .i64 0, .int .i64 0] 24)
  have b2 := ((Box.new w 24 #[.int .i64 a, .int .i64 b] rfl).alloc (.cells #[.int .i64 c, .int .i64 d] 24)).alloc (.cells #[.int .i64 0, .int .i64 0] 24)
  have b3 := (Box.new (w.alloc (.cells #[.int .i64 a, .int .i64 b] 24)) 24 #[.int .i64 c, .int .i64 d] (b := w.heap.size + 1) (by simp)).alloc (.cells #[.int .i64 0, .int .i64 0] 24)
  have b4 := Box.new ((w.alloc (.cells #[.int .i64 a, .int .i64 b] 24)).alloc (.cells #[.int .i64 c, .int .i64 d] 24)) 24 #[.int .i64 0, .int .i64 0] (b := w.heap.size + 2) (by simp)
  obtain ⟨h1, h2, h3, h4, _⟩ := goodF_bounds ha
  obtain ⟨g1, g2, g3, g4, _⟩ := goodF_bounds hc
  have m1 := mul_bound (a := a) (b := d) ⟨h3, h4⟩ ⟨by omega, g2⟩
  have m2 := mul_bound (a := c) (b := b) ⟨g3, g4⟩ ⟨by omega, h2⟩
  have m3 := mul_bound (a := b) (b := d) ⟨by omega, h2⟩ ⟨by omega, g2⟩
  have m4 : 0 < b * d := Int.mul_pos (by omega) (by omega)
  have hw0 : IntKind.i64.wrap (a * d) = a * d := IntWalk.i64_in _ (by omega)
  have hw1 : IntKind.i64.wrap (c * b) = c * b := IntWalk.i64_in _ (by omega)
  have hw2 : IntKind.i64.wrap (a * d - c * b) = a * d - c * b := IntWalk.i64_in _ (by omega)
  have hw3 : IntKind.i64.wrap (b * d) = b * d := IntWalk.i64_in _ (by omega)
  have HR := Lib.hid (show b * d ≠ 0 ∧ InR (a * d - c * b) ∧ InR (b * d) from ⟨by omega, by unfold InR; omega, by unfold InR; omega⟩)
  clear m1 m3 m4 m2
  have HA := Lib.hid ha; clear ha
  have HC := Lib.hid hc; clear hc
  go_enter Try.func13, Try.ntmps13
  go_wp2_with fail
  refine (isFrac_b true a b _ HA.out).mono ?_
  rintro e w1 ⟨rfl, u1⟩
  have x2 := b2.ext u1
  have x3 := b3.ext u1
  have x4 := b4.ext u1
  have e20 := x2.cell 0 (by simp)
  have e21 := x2.cell 1 (by simp)
  have e30 := x3.cell 0 (by simp)
  have e31 := x3.cell 1 (by simp)
  have e40 := x4.cell 0 (by simp)
  have e41 := x4.cell 1 (by simp)
  go_wp2_with fail
  refine (isFrac_b true c d _ HC.out).mono ?_
  rintro e w2 ⟨rfl, u2⟩
  have y2 := x2.ext u2
  have y3 := x3.ext u2
  have y4 := x4.ext u2
  clear e20 e21 e30 e31 e40 e41
  have e20 := y2.cell 0 (by simp)
  have e21 := y2.cell 1 (by simp)
  have e30 := y3.cell 0 (by simp)
  have e31 := y3.cell 1 (by simp)
  have e40 := y4.cell 0 (by simp)
  have e41 := y4.cell 1 (by simp)
  go_wp2_with fail
  refine (reduced_c (a * d - c * b) (b * d) _ HR.out.1 HR.out.2.1 HR.out.2.2).mono ?_
  rintro e w3 ⟨rfl, u3⟩
  have z2 := y2.ext u3
  have z3 := y3.ext u3
  have z4 := y4.ext u3
  clear e20 e21 e30 e31 e40 e41
  have e40 := z4.cell 0 (by simp)
  have e41 := z4.cell 1 (by simp)
  have f0 := z4.free 0
  have f1 := z4.free 1
  go_wp2
  refine bodyPost_ret (v := .tuple #[.agg #[.int .i64 (fVN (a * d - c * b) (b * d)), .int .i64 (fVD (a * d - c * b) (b * d))], .bool (fB (a * d - c * b) (b * d))]) (by simp [results, Try.results13, go_sem, e40, e41]) rfl ⟨rfl, ?_⟩
  exact ((((u0.trans u1).trans u2).trans u3).setCell _ (by simp; omega)).setCell _ (by simp; omega)

set_option maxHeartbeats 6400000 in
theorem SubFrac_n (a b c d : Int) (w : World) (h : (goodF a b && goodF c d) = false) :
    Calls Try.prog 13 #[.agg #[.int .i64 a, .int .i64 b], .agg #[.int .i64 c, .int .i64 d]] w fun e w' => e = .returned (.tuple #[.agg #[.int .i64 (0), .int .i64 (0)], .bool (false)]) ∧ Ext w w' := by
  have u0 := (((Ext.refl w).alloc (.cells #[.int .i64 a, .int .i64 b] 24)).alloc (.cells #[.int .i64 c, .int .i64 d] 24)).alloc (.cells #[.int .i64 0, .int .i64 0] 24)
  have b2 := ((Box.new w 24 #[.int .i64 a, .int .i64 b] rfl).alloc (.cells #[.int .i64 c, .int .i64 d] 24)).alloc (.cells #[.int .i64 0, .int .i64 0] 24)
  have b3 := (Box.new (w.alloc (.cells #[.int .i64 a, .int .i64 b] 24)) 24 #[.int .i64 c, .int .i64 d] (b := w.heap.size + 1) (by simp)).alloc (.cells #[.int .i64 0, .int .i64 0] 24)
  have b4 := Box.new ((w.alloc (.cells #[.int .i64 a, .int .i64 b] 24)).alloc (.cells #[.int .i64 c, .int .i64 d] 24)) 24 #[.int .i64 0, .int .i64 0] (b := w.heap.size + 2) (by simp)
  cases ha : goodF a b
  · have HA := Lib.hid ha; clear ha
    go_enter Try.func13, Try.ntmps13
    go_wp2_with fail
    refine (isFrac_b false a b _ HA.out).mono ?_
    rintro e w1 ⟨rfl, u1⟩
    have x2 := b2.ext u1
    have x3 := b3.ext u1
    have x4 := b4.ext u1
    have e40 := x4.cell 0 (by simp)
    have e41 := x4.cell 1 (by simp)
    have f0 := x4.free 0
    have f1 := x4.free 1
    go_wp2
    refine bodyPost_ret (v := .tuple #[.agg #[.int .i64 0, .int .i64 0], .bool false]) (by simp [results, Try.results13, go_sem, e40, e41]) rfl ⟨rfl, ?_⟩
    exact ((u0.trans u1).setCell _ (by simp; omega)).setCell _ (by simp; omega)
  rw [ha, Bool.true_and] at h
  have HA := Lib.hid ha; clear ha
  have HC := Lib.hid h; clear h
  go_enter Try.func13, Try.ntmps13
  go_wp2_with fail
  refine (isFrac_b true a b _ HA.out).mono ?_
  rintro e w1 ⟨rfl, u1⟩
  have x2 := b2.ext u1
  have x3 := b3.ext u1
  have x4 := b4.ext u1
  have e20 := x2.cell 0 (by simp)
  have e21 := x2.cell 1 (by simp)
  have e30 := x3.cell 0 (by simp)
  have e31 := x3.cell 1 (by simp)
  have e40 := x4.cell 0 (by simp)
  have e41 := x4.cell 1 (by simp)
  go_wp2_with fail
  refine (isFrac_b false c d _ HC.out).mono ?_
  rintro e w2 ⟨rfl, u2⟩
  have y2 := x2.ext u2
  have y3 := x3.ext u2
  have y4 := x4.ext u2
  clear e20 e21 e30 e31 e40 e41
  have e20 := y2.cell 0 (by simp)
  have e21 := y2.cell 1 (by simp)
  have e30 := y3.cell 0 (by simp)
  have e31 := y3.cell 1 (by simp)
  have e40 := y4.cell 0 (by simp)
  have e41 := y4.cell 1 (by simp)
  have f0 := y4.free 0
  have f1 := y4.free 1
  go_wp2
  refine bodyPost_ret (v := .tuple #[.agg #[.int .i64 0, .int .i64 0], .bool false]) (by simp [results, Try.results13, go_sem, e40, e41]) rfl ⟨rfl, ?_⟩
  exact (((u0.trans u1).trans u2).setCell _ (by simp; omega)).setCell _ (by simp; omega)

set_option maxHeartbeats 1600000 in
theorem fSub_y (a b c d : Int) (w : World) (ha : goodF a b = true) (hc : goodF c d = true) :
    Calls Try.prog 29 #[.agg #[.int .i64 a, .int .i64 b], .agg #[.int .i64 c, .int .i64 d]] w fun e w' => e = .returned (.tuple #[.agg #[.int .i64 (fVN (a * d - c * b) (b * d)), .int .i64 (fVD (a * d - c * b) (b * d))], .bool (fB (a * d - c * b) (b * d))]) ∧ Ext w w' := by
  have u0 := (((Ext.refl w).alloc (.cells #[.int .i64 a, .int .i64 b] 24)).alloc (.cells #[.int .i64 c, .int .i64 d] 24)).alloc (.cells #[.int .i64 0, .int .i64 0] 24)
  have b2 := ((Box.new w 24 #[.int .i64 a, .int .i64 b] rfl).alloc (.cells #[.int .i64 c, .int .i64 d] 24)).alloc (.cells #[.int .i64 0, .int .i64 0] 24)
  have b3 := (Box.new (w.alloc (.cells #[.int .i64 a, .int .i64 b] 24)) 24 #[.int .i64 c, .int .i64 d] (b := w.heap.size + 1) (by simp)).alloc (.cells #[.int .i64 0, .int .i64 0] 24)
  have b4 := Box.new ((w.alloc (.cells #[.int .i64 a, .int .i64 b] 24)).alloc (.cells #[.int .i64 c, .int .i64 d] 24)) 24 #[.int .i64 0, .int .i64 0] (b := w.heap.size + 2) (by simp)
  obtain ⟨h1, h2, h3, h4, _⟩ := goodF_bounds ha
  obtain ⟨g1, g2, g3, g4, _⟩ := goodF_bounds hc
  have m1 := mul_bound (a := a) (b := d) ⟨h3, h4⟩ ⟨by omega, g2⟩
  have m2 := mul_bound (a := c) (b := b) ⟨g3, g4⟩ ⟨by omega, h2⟩
  have m3 := mul_bound (a := b) (b := d) ⟨by omega, h2⟩ ⟨by omega, g2⟩
  have m4 : 0 < b * d := Int.mul_pos (by omega) (by omega)
  have hw0 : IntKind.i64.wrap (a * d) = a * d := IntWalk.i64_in _ (by omega)
  have hw1 : IntKind.i64.wrap (c * b) = c * b := IntWalk.i64_in _ (by omega)
  have hw2 : IntKind.i64.wrap (a * d - c * b) = a * d - c * b := IntWalk.i64_in _ (by omega)
  have hw3 : IntKind.i64.wrap (b * d) = b * d := IntWalk.i64_in _ (by omega)
  have HR := Lib.hid (show b * d ≠ 0 ∧ InR (a * d - c * b) ∧ InR (b * d) from ⟨by omega, by unfold InR; omega, by unfold InR; omega⟩)
  clear m1 m3 m4 m2
  have e20 := b2.cell 0 (by simp)
  have e21 := b2.cell 1 (by simp)
  have e30 := b3.cell 0 (by simp)
  have e31 := b3.cell 1 (by simp)
  have e40 := b4.cell 0 (by simp)
  have e41 := b4.cell 1 (by simp)
  clear ha hc
  go_enter Try.func29, Try.ntmps29
  go_wp2_with fail
  refine (fMake_c (a * d - c * b) (b * d) _ HR.out.1 HR.out.2.1 HR.out.2.2).mono ?_
  rintro e w3 ⟨rfl, u3⟩
  have z2 := b2.ext u3
  have z3 := b3.ext u3
  have z4 := b4.ext u3
  clear e20 e21 e30 e31 e40 e41
  have e40 := z4.cell 0 (by simp)
  have e41 := z4.cell 1 (by simp)
  have f0 := z4.free 0
  have f1 := z4.free 1
  go_wp2
  refine bodyPost_ret (v := .tuple #[.agg #[.int .i64 (fVN (a * d - c * b) (b * d)), .int .i64 (fVD (a * d - c * b) (b * d))], .bool (fB (a * d - c * b) (b * d))]) (by simp [results, Try.results29, go_sem, e40, e41]) rfl ⟨rfl, ?_⟩
  exact ((u0.trans u3).setCell _ (by simp; omega)).setCell _ (by simp; omega)

set_option maxHeartbeats 1600000 in
theorem MulFrac_y (a b c d : Int) (w : World) (ha : goodF a b = true) (hc : goodF c d = true) :
    Calls Try.prog 11 #[.agg #[.int .i64 a, .int .i64 b], .agg #[.int .i64 c, .int .i64 d]] w fun e w' => e = .returned (.tuple #[.agg #[.int .i64 (fVN (a * c) (b * d)), .int .i64 (fVD (a * c) (b * d))], .bool (fB (a * c) (b * d))]) ∧ Ext w w' := by
  have u0 := (((Ext.refl w).alloc (.cells #[.int .i64 a, .int .i64 b] 24)).alloc (.cells #[.int .i64 c, .int .i64 d] 24)).alloc (.cells #[.int .i64 0, .int .i64 0] 24)
  have b2 := ((Box.new w 24 #[.int .i64 a, .int .i64 b] rfl).alloc (.cells #[.int .i64 c, .int .i64 d] 24)).alloc (.cells #[.int .i64 0, .int .i64 0] 24)
  have b3 := (Box.new (w.alloc (.cells #[.int .i64 a, .int .i64 b] 24)) 24 #[.int .i64 c, .int .i64 d] (b := w.heap.size + 1) (by simp)).alloc (.cells #[.int .i64 0, .int .i64 0] 24)
  have b4 := Box.new ((w.alloc (.cells #[.int .i64 a, .int .i64 b] 24)).alloc (.cells #[.int .i64 c, .int .i64 d] 24)) 24 #[.int .i64 0, .int .i64 0] (b := w.heap.size + 2) (by simp)
  obtain ⟨h1, h2, h3, h4, _⟩ := goodF_bounds ha
  obtain ⟨g1, g2, g3, g4, _⟩ := goodF_bounds hc
  have m1 := mul_bound (a := a) (b := c) ⟨h3, h4⟩ ⟨g3, g4⟩
  have m3 := mul_bound (a := b) (b := d) ⟨by omega, h2⟩ ⟨by omega, g2⟩
  have m4 : 0 < b * d := Int.mul_pos (by omega) (by omega)
  have hw0 : IntKind.i64.wrap (a * c) = a * c := IntWalk.i64_in _ (by omega)
  have hw1 : IntKind.i64.wrap (b * d) = b * d := IntWalk.i64_in _ (by omega)
  have HR := Lib.hid (show b * d ≠ 0 ∧ InR (a * c) ∧ InR (b * d) from ⟨by omega, by unfold InR; omega, by unfold InR; omega⟩)
  clear m1 m3 m4
  have HA := Lib.hid ha; clear ha
  have HC := Lib.hid hc; clear hc
  go_enter Try.func11, Try.ntmps11
  go_wp2_with fail
  refine (isFrac_b true a b _ HA.out).mono ?_
  rintro e w1 ⟨rfl, u1⟩
  have x2 := b2.ext u1
  have x3 := b3.ext u1
  have x4 := b4.ext u1
  have e20 := x2.cell 0 (by simp)
  have e21 := x2.cell 1 (by simp)
  have e30 := x3.cell 0 (by simp)
  have e31 := x3.cell 1 (by simp)
  have e40 := x4.cell 0 (by simp)
  have e41 := x4.cell 1 (by simp)
  go_wp2_with fail
  refine (isFrac_b true c d _ HC.out).mono ?_
  rintro e w2 ⟨rfl, u2⟩
  have y2 := x2.ext u2
  have y3 := x3.ext u2
  have y4 := x4.ext u2
  clear e20 e21 e30 e31 e40 e41
  have e20 := y2.cell 0 (by simp)
  have e21 := y2.cell 1 (by simp)
  have e30 := y3.cell 0 (by simp)
  have e31 := y3.cell 1 (by simp)
  have e40 := y4.cell 0 (by simp)
  have e41 := y4.cell 1 (by simp)
  go_wp2_with fail
  refine (reduced_c (a * c) (b * d) _ HR.out.1 HR.out.2.1 HR.out.2.2).mono ?_
  rintro e w3 ⟨rfl, u3⟩
  have z2 := y2.ext u3
  have z3 := y3.ext u3
  have z4 := y4.ext u3
  clear e20 e21 e30 e31 e40 e41
  have e40 := z4.cell 0 (by simp)
  have e41 := z4.cell 1 (by simp)
  have f0 := z4.free 0
  have f1 := z4.free 1
  go_wp2
  refine bodyPost_ret (v := .tuple #[.agg #[.int .i64 (fVN (a * c) (b * d)), .int .i64 (fVD (a * c) (b * d))], .bool (fB (a * c) (b * d))]) (by simp [results, Try.results11, go_sem, e40, e41]) rfl ⟨rfl, ?_⟩
  exact ((((u0.trans u1).trans u2).trans u3).setCell _ (by simp; omega)).setCell _ (by simp; omega)

set_option maxHeartbeats 6400000 in
theorem MulFrac_n (a b c d : Int) (w : World) (h : (goodF a b && goodF c d) = false) :
    Calls Try.prog 11 #[.agg #[.int .i64 a, .int .i64 b], .agg #[.int .i64 c, .int .i64 d]] w fun e w' => e = .returned (.tuple #[.agg #[.int .i64 (0), .int .i64 (0)], .bool (false)]) ∧ Ext w w' := by
  have u0 := (((Ext.refl w).alloc (.cells #[.int .i64 a, .int .i64 b] 24)).alloc (.cells #[.int .i64 c, .int .i64 d] 24)).alloc (.cells #[.int .i64 0, .int .i64 0] 24)
  have b2 := ((Box.new w 24 #[.int .i64 a, .int .i64 b] rfl).alloc (.cells #[.int .i64 c, .int .i64 d] 24)).alloc (.cells #[.int .i64 0, .int .i64 0] 24)
  have b3 := (Box.new (w.alloc (.cells #[.int .i64 a, .int .i64 b] 24)) 24 #[.int .i64 c, .int .i64 d] (b := w.heap.size + 1) (by simp)).alloc (.cells #[.int .i64 0, .int .i64 0] 24)
  have b4 := Box.new ((w.alloc (.cells #[.int .i64 a, .int .i64 b] 24)).alloc (.cells #[.int .i64 c, .int .i64 d] 24)) 24 #[.int .i64 0, .int .i64 0] (b := w.heap.size + 2) (by simp)
  cases ha : goodF a b
  · have HA := Lib.hid ha; clear ha
    go_enter Try.func11, Try.ntmps11
    go_wp2_with fail
    refine (isFrac_b false a b _ HA.out).mono ?_
    rintro e w1 ⟨rfl, u1⟩
    have x2 := b2.ext u1
    have x3 := b3.ext u1
    have x4 := b4.ext u1
    have e40 := x4.cell 0 (by simp)
    have e41 := x4.cell 1 (by simp)
    have f0 := x4.free 0
    have f1 := x4.free 1
    go_wp2
    refine bodyPost_ret (v := .tuple #[.agg #[.int .i64 0, .int .i64 0], .bool false]) (by simp [results, Try.results11, go_sem, e40, e41]) rfl ⟨rfl, ?_⟩
    exact ((u0.trans u1).setCell _ (by simp; omega)).setCell _ (by simp; omega)
  rw [ha, Bool.true_and] at h
  have HA := Lib.hid ha; clear ha
  have HC := Lib.hid h; clear h
  go_enter Try.func11, Try.ntmps11
  go_wp2_with fail
  refine (isFrac_b true a b _ HA.out).mono ?_
  rintro e w1 ⟨rfl, u1⟩
  have x2 := b2.ext u1
  have x3 := b3.ext u1
  have x4 := b4.ext u1
  have e20 := x2.cell 0 (by simp)
  have e21 := x2.cell 1 (by simp)
  have e30 := x3.cell 0 (by simp)
  have e31 := x3.cell 1 (by simp)
  have e40 := x4.cell 0 (by simp)
  have e41 := x4.cell 1 (by simp)
  go_wp2_with fail
  refine (isFrac_b false c d _ HC.out).mono ?_
  rintro e w2 ⟨rfl, u2⟩
  have y2 := x2.ext u2
  have y3 := x3.ext u2
  have y4 := x4.ext u2
  clear e20 e21 e30 e31 e40 e41
  have e20 := y2.cell 0 (by simp)
  have e21 := y2.cell 1 (by simp)
  have e30 := y3.cell 0 (by simp)
  have e31 := y3.cell 1 (by simp)
  have e40 := y4.cell 0 (by simp)
  have e41 := y4.cell 1 (by simp)
  have f0 := y4.free 0
  have f1 := y4.free 1
  go_wp2
  refine bodyPost_ret (v := .tuple #[.agg #[.int .i64 0, .int .i64 0], .bool false]) (by simp [results, Try.results11, go_sem, e40, e41]) rfl ⟨rfl, ?_⟩
  exact (((u0.trans u1).trans u2).setCell _ (by simp; omega)).setCell _ (by simp; omega)

set_option maxHeartbeats 1600000 in
theorem fMul_y (a b c d : Int) (w : World) (ha : goodF a b = true) (hc : goodF c d = true) :
    Calls Try.prog 30 #[.agg #[.int .i64 a, .int .i64 b], .agg #[.int .i64 c, .int .i64 d]] w fun e w' => e = .returned (.tuple #[.agg #[.int .i64 (fVN (a * c) (b * d)), .int .i64 (fVD (a * c) (b * d))], .bool (fB (a * c) (b * d))]) ∧ Ext w w' := by
  have u0 := (((Ext.refl w).alloc (.cells #[.int .i64 a, .int .i64 b] 24)).alloc (.cells #[.int .i64 c, .int .i64 d] 24)).alloc (.cells #[.int .i64 0, .int .i64 0] 24)
  have b2 := ((Box.new w 24 #[.int .i64 a, .int .i64 b] rfl).alloc (.cells #[.int .i64 c, .int .i64 d] 24)).alloc (.cells #[.int .i64 0, .int .i64 0] 24)
  have b3 := (Box.new (w.alloc (.cells #[.int .i64 a, .int .i64 b] 24)) 24 #[.int .i64 c, .int .i64 d] (b := w.heap.size + 1) (by simp)).alloc (.cells #[.int .i64 0, .int .i64 0] 24)
  have b4 := Box.new ((w.alloc (.cells #[.int .i64 a, .int .i64 b] 24)).alloc (.cells #[.int .i64 c, .int .i64 d] 24)) 24 #[.int .i64 0, .int .i64 0] (b := w.heap.size + 2) (by simp)
  obtain ⟨h1, h2, h3, h4, _⟩ := goodF_bounds ha
  obtain ⟨g1, g2, g3, g4, _⟩ := goodF_bounds hc
  have m1 := mul_bound (a := a) (b := c) ⟨h3, h4⟩ ⟨g3, g4⟩
  have m3 := mul_bound (a := b) (b := d) ⟨by omega, h2⟩ ⟨by omega, g2⟩
  have m4 : 0 < b * d := Int.mul_pos (by omega) (by omega)
  have hw0 : IntKind.i64.wrap (a * c) = a * c := IntWalk.i64_in _ (by omega)
  have hw1 : IntKind.i64.wrap (b * d) = b * d := IntWalk.i64_in _ (by omega)
  have HR := Lib.hid (show b * d ≠ 0 ∧ InR (a * c) ∧ InR (b * d) from ⟨by omega, by unfold InR; omega, by unfold InR; omega⟩)
  clear m1 m3 m4
  have e20 := b2.cell 0 (by simp)
  have e21 := b2.cell 1 (by simp)
  have e30 := b3.cell 0 (by simp)
  have e31 := b3.cell 1 (by simp)
  have e40 := b4.cell 0 (by simp)
  have e41 := b4.cell 1 (by simp)
  clear ha hc
  go_enter Try.func30, Try.ntmps30
  go_wp2_with fail
  refine (fMake_c (a * c) (b * d) _ HR.out.1 HR.out.2.1 HR.out.2.2).mono ?_
  rintro e w3 ⟨rfl, u3⟩
  have z2 := b2.ext u3
  have z3 := b3.ext u3
  have z4 := b4.ext u3
  clear e20 e21 e30 e31 e40 e41
  have e40 := z4.cell 0 (by simp)
  have e41 := z4.cell 1 (by simp)
  have f0 := z4.free 0
  have f1 := z4.free 1
  go_wp2
  refine bodyPost_ret (v := .tuple #[.agg #[.int .i64 (fVN (a * c) (b * d)), .int .i64 (fVD (a * c) (b * d))], .bool (fB (a * c) (b * d))]) (by simp [results, Try.results30, go_sem, e40, e41]) rfl ⟨rfl, ?_⟩
  exact ((u0.trans u3).setCell _ (by simp; omega)).setCell _ (by simp; omega)

set_option maxHeartbeats 1600000 in
theorem DivFrac_y (a b c d : Int) (w : World) (ha : goodF a b = true) (hc : goodF c d = true) (h0 : c ≠ 0) :
    Calls Try.prog 9 #[.agg #[.int .i64 a, .int .i64 b], .agg #[.int .i64 c, .int .i64 d]] w fun e w' => e = .returned (.tuple #[.agg #[.int .i64 (fVN (a * d) (b * c)), .int .i64 (fVD (a * d) (b * c))], .bool (fB (a * d) (b * c))]) ∧ Ext w w' := by
  have u0 := (((Ext.refl w).alloc (.cells #[.int .i64 a, .int .i64 b] 24)).alloc (.cells #[.int .i64 c, .int .i64 d] 24)).alloc (.cells #[.int .i64 0, .int .i64 0] 24)
  have b2 := ((Box.new w 24 #[.int .i64 a, .int .i64 b] rfl).alloc (.cells #[.int .i64 c, .int .i64 d] 24)).alloc (.cells #[.int .i64 0, .int .i64 0] 24)
  have b3 := (Box.new (w.alloc (.cells #[.int .i64 a, .int .i64 b] 24)) 24 #[.int .i64 c, .int .i64 d] (b := w.heap.size + 1) (by simp)).alloc (.cells #[.int .i64 0, .int .i64 0] 24)
  have b4 := Box.new ((w.alloc (.cells #[.int .i64 a, .int .i64 b] 24)).alloc (.cells #[.int .i64 c, .int .i64 d] 24)) 24 #[.int .i64 0, .int .i64 0] (b := w.heap.size + 2) (by simp)
  obtain ⟨h1, h2, h3, h4, _⟩ := goodF_bounds ha
  obtain ⟨g1, g2, g3, g4, _⟩ := goodF_bounds hc
  have m1 := mul_bound (a := a) (b := d) ⟨h3, h4⟩ ⟨by omega, g2⟩
  have m3 := mul_bound (a := b) (b := c) ⟨by omega, h2⟩ ⟨g3, g4⟩
  have m4 : b * c ≠ 0 := Int.mul_ne_zero (by omega) h0
  have hw0 : IntKind.i64.wrap (a * d) = a * d := IntWalk.i64_in _ (by omega)
  have hw1 : IntKind.i64.wrap (b * c) = b * c := IntWalk.i64_in _ (by omega)
  have HR := Lib.hid (show b * c ≠ 0 ∧ InR (a * d) ∧ InR (b * c) from ⟨by omega, by unfold InR; omega, by unfold InR; omega⟩)
  clear m1 m3 m4
  have hc0 : (c == 0) = false := by simp [h0]
  have HA := Lib.hid ha; clear ha
  have HC := Lib.hid hc; clear hc
  go_enter Try.func9, Try.ntmps9
  go_wp2_with fail
  refine (isFrac_b true a b _ HA.out).mono ?_
  rintro e w1 ⟨rfl, u1⟩
  have x2 := b2.ext u1
  have x3 := b3.ext u1
  have x4 := b4.ext u1
  have e20 := x2.cell 0 (by simp)
  have e21 := x2.cell 1 (by simp)
  have e30 := x3.cell 0 (by simp)
  have e31 := x3.cell 1 (by simp)
  have e40 := x4.cell 0 (by simp)
  have e41 := x4.cell 1 (by simp)
  go_wp2_with fail
  refine (isFrac_b true c d _ HC.out).mono ?_
  rintro e w2 ⟨rfl, u2⟩
  have y2 := x2.ext u2
  have y3 := x3.ext u2
  have y4 := x4.ext u2
  clear e20 e21 e30 e31 e40 e41
  have e20 := y2.cell 0 (by simp)
  have e21 := y2.cell 1 (by simp)
  have e30 := y3.cell 0 (by simp)
  have e31 := y3.cell 1 (by simp)
  have e40 := y4.cell 0 (by simp)
  have e41 := y4.cell 1 (by simp)
  go_wp2_with fail
  refine (reduced_c (a * d) (b * c) _ HR.out.1 HR.out.2.1 HR.out.2.2).mono ?_
  rintro e w3 ⟨rfl, u3⟩
  have z2 := y2.ext u3
  have z3 := y3.ext u3
  have z4 := y4.ext u3
  clear e20 e21 e30 e31 e40 e41
  have e40 := z4.cell 0 (by simp)
  have e41 := z4.cell 1 (by simp)
  have f0 := z4.free 0
  have f1 := z4.free 1
  go_wp2
  refine bodyPost_ret (v := .tuple #[.agg #[.int .i64 (fVN (a * d) (b * c)), .int .i64 (fVD (a * d) (b * c))], .bool (fB (a * d) (b * c))]) (by simp [results, Try.results9, go_sem, e40, e41]) rfl ⟨rfl, ?_⟩
  exact ((((u0.trans u1).trans u2).trans u3).setCell _ (by simp; omega)).setCell _ (by simp; omega)

set_option maxHeartbeats 6400000 in
theorem DivFrac_n (a b c d : Int) (w : World) (h : (goodF a b && (goodF c d && decide (c ≠ 0))) = false) :
    Calls Try.prog 9 #[.agg #[.int .i64 a, .int .i64 b], .agg #[.int .i64 c, .int .i64 d]] w fun e w' => e = .returned (.tuple #[.agg #[.int .i64 (0), .int .i64 (0)], .bool (false)]) ∧ Ext w w' := by
  have u0 := (((Ext.refl w).alloc (.cells #[.int .i64 a, .int .i64 b] 24)).alloc (.cells #[.int .i64 c, .int .i64 d] 24)).alloc (.cells #[.int .i64 0, .int .i64 0] 24)
  have b2 := ((Box.new w 24 #[.int .i64 a, .int .i64 b] rfl).alloc (.cells #[.int .i64 c, .int .i64 d] 24)).alloc (.cells #[.int .i64 0, .int .i64 0] 24)
  have b3 := (Box.new (w.alloc (.cells #[.int .i64 a, .int .i64 b] 24)) 24 #[.int .i64 c, .int .i64 d] (b := w.heap.size + 1) (by simp)).alloc (.cells #[.int .i64 0, .int .i64 0] 24)
  have b4 := Box.new ((w.alloc (.cells #[.int .i64 a, .int .i64 b] 24)).alloc (.cells #[.int .i64 c, .int .i64 d] 24)) 24 #[.int .i64 0, .int .i64 0] (b := w.heap.size + 2) (by simp)
  cases ha : goodF a b
  · have HA := Lib.hid ha; clear ha
    go_enter Try.func9, Try.ntmps9
    go_wp2_with fail
    refine (isFrac_b false a b _ HA.out).mono ?_
    rintro e w1 ⟨rfl, u1⟩
    have x2 := b2.ext u1
    have x3 := b3.ext u1
    have x4 := b4.ext u1
    have e40 := x4.cell 0 (by simp)
    have e41 := x4.cell 1 (by simp)
    have f0 := x4.free 0
    have f1 := x4.free 1
    go_wp2
    refine bodyPost_ret (v := .tuple #[.agg #[.int .i64 0, .int .i64 0], .bool false]) (by simp [results, Try.results9, go_sem, e40, e41]) rfl ⟨rfl, ?_⟩
    exact ((u0.trans u1).setCell _ (by simp; omega)).setCell _ (by simp; omega)
  rw [ha, Bool.true_and] at h
  have HA := Lib.hid ha; clear ha
  cases hc : goodF c d
  · have HC := Lib.hid hc; clear hc h
    go_enter Try.func9, Try.ntmps9
    go_wp2_with fail
    refine (isFrac_b true a b _ HA.out).mono ?_
    rintro e w1 ⟨rfl, u1⟩
    have x2 := b2.ext u1
    have x3 := b3.ext u1
    have x4 := b4.ext u1
    have e20 := x2.cell 0 (by simp)
    have e21 := x2.cell 1 (by simp)
    have e30 := x3.cell 0 (by simp)
    have e31 := x3.cell 1 (by simp)
    have e40 := x4.cell 0 (by simp)
    have e41 := x4.cell 1 (by simp)
    go_wp2_with fail
    refine (isFrac_b false c d _ HC.out).mono ?_
    rintro e w2 ⟨rfl, u2⟩
    have y2 := x2.ext u2
    have y3 := x3.ext u2
    have y4 := x4.ext u2
    clear e20 e21 e30 e31 e40 e41
    have e20 := y2.cell 0 (by simp)
    have e21 := y2.cell 1 (by simp)
    have e30 := y3.cell 0 (by simp)
    have e31 := y3.cell 1 (by simp)
    have e40 := y4.cell 0 (by simp)
    have e41 := y4.cell 1 (by simp)
    have f0 := y4.free 0
    have f1 := y4.free 1
    go_wp2
    refine bodyPost_ret (v := .tuple #[.agg #[.int .i64 0, .int .i64 0], .bool false]) (by simp [results, Try.results9, go_sem, e40, e41]) rfl ⟨rfl, ?_⟩
    exact (((u0.trans u1).trans u2).setCell _ (by simp; omega)).setCell _ (by simp; omega)
  have hz : c = 0 := by rw [hc] at h; simpa using h
  subst hz
  have HC := Lib.hid hc; clear hc h
  go_enter Try.func9, Try.ntmps9
  go_wp2_with fail
  refine (isFrac_b true a b _ HA.out).mono ?_
  rintro e w1 ⟨rfl, u1⟩
  have x2 := b2.ext u1
  have x3 := b3.ext u1
  have x4 := b4.ext u1
  have e20 := x2.cell 0 (by simp)
  have e21 := x2.cell 1 (by simp)
  have e30 := x3.cell 0 (by simp)
  have e31 := x3.cell 1 (by simp)
  have e40 := x4.cell 0 (by simp)
  have e41 := x4.cell 1 (by simp)
  go_wp2_with fail
  refine (isFrac_b true 0 d _ HC.out).mono ?_
  rintro e w2 ⟨rfl, u2⟩
  have y2 := x2.ext u2
  have y3 := x3.ext u2
  have y4 := x4.ext u2
  clear e20 e21 e30 e31 e40 e41
  have e20 := y2.cell 0 (by simp)
  have e21 := y2.cell 1 (by simp)
  have e30 := y3.cell 0 (by simp)
  have e31 := y3.cell 1 (by simp)
  have e40 := y4.cell 0 (by simp)
  have e41 := y4.cell 1 (by simp)
  have f0 := y4.free 0
  have f1 := y4.free 1
  go_wp2
  refine bodyPost_ret (v := .tuple #[.agg #[.int .i64 0, .int .i64 0], .bool false]) (by simp [results, Try.results9, go_sem, e40, e41]) rfl ⟨rfl, ?_⟩
  exact (((u0.trans u1).trans u2).setCell _ (by simp; omega)).setCell _ (by simp; omega)

set_option maxHeartbeats 1600000 in
theorem fDiv_y (a b c d : Int) (w : World) (ha : goodF a b = true) (hc : goodF c d = true) (h0 : c ≠ 0) :
    Calls Try.prog 23 #[.agg #[.int .i64 a, .int .i64 b], .agg #[.int .i64 c, .int .i64 d]] w fun e w' => e = .returned (.tuple #[.agg #[.int .i64 (fVN (a * d) (b * c)), .int .i64 (fVD (a * d) (b * c))], .bool (fB (a * d) (b * c))]) ∧ Ext w w' := by
  have u0 := (((Ext.refl w).alloc (.cells #[.int .i64 a, .int .i64 b] 24)).alloc (.cells #[.int .i64 c, .int .i64 d] 24)).alloc (.cells #[.int .i64 0, .int .i64 0] 24)
  have b2 := ((Box.new w 24 #[.int .i64 a, .int .i64 b] rfl).alloc (.cells #[.int .i64 c, .int .i64 d] 24)).alloc (.cells #[.int .i64 0, .int .i64 0] 24)
  have b3 := (Box.new (w.alloc (.cells #[.int .i64 a, .int .i64 b] 24)) 24 #[.int .i64 c, .int .i64 d] (b := w.heap.size + 1) (by simp)).alloc (.cells #[.int .i64 0, .int .i64 0] 24)
  have b4 := Box.new ((w.alloc (.cells #[.int .i64 a, .int .i64 b] 24)).alloc (.cells #[.int .i64 c, .int .i64 d] 24)) 24 #[.int .i64 0, .int .i64 0] (b := w.heap.size + 2) (by simp)
  obtain ⟨h1, h2, h3, h4, _⟩ := goodF_bounds ha
  obtain ⟨g1, g2, g3, g4, _⟩ := goodF_bounds hc
  have m1 := mul_bound (a := a) (b := d) ⟨h3, h4⟩ ⟨by omega, g2⟩
  have m3 := mul_bound (a := b) (b := c) ⟨by omega, h2⟩ ⟨g3, g4⟩
  have m4 : b * c ≠ 0 := Int.mul_ne_zero (by omega) h0
  have hw0 : IntKind.i64.wrap (a * d) = a * d := IntWalk.i64_in _ (by omega)
  have hw1 : IntKind.i64.wrap (b * c) = b * c := IntWalk.i64_in _ (by omega)
  have HR := Lib.hid (show b * c ≠ 0 ∧ InR (a * d) ∧ InR (b * c) from ⟨by omega, by unfold InR; omega, by unfold InR; omega⟩)
  clear m1 m3 m4
  have hc0 : (c == 0) = false := by simp [h0]
  have e20 := b2.cell 0 (by simp)
  have e21 := b2.cell 1 (by simp)
  have e30 := b3.cell 0 (by simp)
  have e31 := b3.cell 1 (by simp)
  have e40 := b4.cell 0 (by simp)
  have e41 := b4.cell 1 (by simp)
  clear ha hc
  go_enter Try.func23, Try.ntmps23
  go_wp2_with fail
  refine (fMake_c (a * d) (b * c) _ HR.out.1 HR.out.2.1 HR.out.2.2).mono ?_
  rintro e w3 ⟨rfl, u3⟩
  have z2 := b2.ext u3
  have z3 := b3.ext u3
  have z4 := b4.ext u3
  clear e20 e21 e30 e31 e40 e41
  have e40 := z4.cell 0 (by simp)
  have e41 := z4.cell 1 (by simp)
  have f0 := z4.free 0
  have f1 := z4.free 1
  go_wp2
  refine bodyPost_ret (v := .tuple #[.agg #[.int .i64 (fVN (a * d) (b * c)), .int .i64 (fVD (a * d) (b * c))], .bool (fB (a * d) (b * c))]) (by simp [results, Try.results23, go_sem, e40, e41]) rfl ⟨rfl, ?_⟩
  exact ((u0.trans u3).setCell _ (by simp; omega)).setCell _ (by simp; omega)

end Go.Proofs.Ytmhofeljieicaaa
