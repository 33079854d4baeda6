/- Sums and quotients of any two fractions, whole; the order. -/
import Derived.Test.YtmhofeljieicaaaDrwD
namespace Go.Proofs.Ytmhofeljieicaaa
open Go.RowKit

def adO (a b c d : Int) : Bool := goodF a b && goodF c d
def dvO (a b c d : Int) : Bool := goodF a b && (goodF c d && decide (c ≠ 0))
def adB (a b c d : Int) : Bool := adO a b c d && fB (a * d + c * b) (b * d)
def adN (a b c d : Int) : Int := if adO a b c d = true then fVN (a * d + c * b) (b * d) else 0
def adD (a b c d : Int) : Int := if adO a b c d = true then fVD (a * d + c * b) (b * d) else 0
def dvB (a b c d : Int) : Bool := dvO a b c d && fB (a * d) (b * c)
def dvN (a b c d : Int) : Int := if dvO a b c d = true then fVN (a * d) (b * c) else 0
def dvD (a b c d : Int) : Int := if dvO a b c d = true then fVD (a * d) (b * c) else 0

theorem implAdd_t (a b c d : Int) (w : World) :
    Calls Try.prog 6 #[.agg #[.int .i64 a, .int .i64 b], .agg #[.int .i64 c, .int .i64 d]] w fun e w' => e = .returned (.tuple #[.agg #[.int .i64 (adN a b c d), .int .i64 (adD a b c d)], .bool (adB a b c d)]) ∧ Ext w w' := by
  cases h : adO a b c d
  · have h' := h
    unfold adO at h'
    simp only [adN, adD, adB, h, Bool.false_and]
    exact AddFrac_n a b c d w h'
  · obtain ⟨h1, h2⟩ := Bool.and_eq_true_iff.1 (show (goodF a b && goodF c d) = true from h)
    simp only [adN, adD, adB, h, Bool.true_and, if_true]
    exact AddFrac_y a b c d w h1 h2
theorem implDiv_t (a b c d : Int) (w : World) :
    Calls Try.prog 9 #[.agg #[.int .i64 a, .int .i64 b], .agg #[.int .i64 c, .int .i64 d]] w fun e w' => e = .returned (.tuple #[.agg #[.int .i64 (dvN a b c d), .int .i64 (dvD a b c d)], .bool (dvB a b c d)]) ∧ Ext w w' := by
  cases h : dvO a b c d
  · have h' := h
    unfold dvO at h'
    simp only [dvN, dvD, dvB, h, Bool.false_and]
    exact DivFrac_n a b c d w h'
  · obtain ⟨h1, h2⟩ := Bool.and_eq_true_iff.1 (show (goodF a b && (goodF c d && decide (c ≠ 0))) = true from h)
    obtain ⟨h3, h4⟩ := Bool.and_eq_true_iff.1 h2
    simp only [dvN, dvD, dvB, h, Bool.true_and, if_true]
    exact DivFrac_y a b c d w h1 h3 (of_decide_eq_true h4)
theorem fTwo_b (r : Bool) (a b c d : Int) (w : World) (h : adO a b c d = r) :
    Calls Try.prog 21 #[.agg #[.int .i64 a, .int .i64 b], .agg #[.int .i64 c, .int .i64 d]] w fun e w' => e = .returned (.bool r) ∧ Ext w w' := by
  subst h
  have u0 := ((Ext.refl w).alloc (.cells #[.int .i64 a, .int .i64 b] 24)).alloc (.cells #[.int .i64 c, .int .i64 d] 24)
  have b3 := Box.new (w.alloc (.cells #[.int .i64 a, .int .i64 b] 24)) 24 #[.int .i64 c, .int .i64 d] (b := w.heap.size + 1) (by simp)
  cases ha : goodF a b
  · simp only [adO, ha, Bool.false_and]
    have HA := Lib.hid ha; clear ha
    go_enter Try.func21, Try.ntmps21
    go_wp2_with fail
    refine (fGood_a false a b _ HA.out).mono ?_
    rintro e w1 ⟨rfl, u1⟩
    go_wp2
    go_ret
    exact ⟨rfl, u0.trans u1⟩
  · simp only [adO, ha, Bool.true_and]
    obtain ⟨G, hG⟩ : ∃ G, goodF c d = G := ⟨_, rfl⟩
    rw [hG]
    have HA := Lib.hid ha; clear ha
    have HG := Lib.hid hG; clear hG
    go_enter Try.func21, Try.ntmps21
    go_wp2_with fail
    refine (fGood_a true a b _ HA.out).mono ?_
    rintro e w1 ⟨rfl, u1⟩
    have x3 := b3.ext u1
    have e30 := x3.cell 0 (by simp)
    have e31 := x3.cell 1 (by simp)
    go_wp2_with fail
    refine (fGood_a G c d _ HG.out).mono ?_
    rintro e w2 ⟨rfl, u2⟩
    go_wp2
    go_ret
    exact ⟨by cases G <;> rfl, (u0.trans u1).trans u2⟩
theorem fDiv_0 (a b d : Int) (w : World) : Calls Try.prog 23 #[.agg #[.int .i64 a, .int .i64 b], .agg #[.int .i64 0, .int .i64 d]] w fun e w' => e = .returned (.tuple #[.agg #[.int .i64 0, .int .i64 0], .bool false]) ∧ Ext w w' := by
  obtain ⟨c, hc⟩ : ∃ c : Int, c = 0 := ⟨_, rfl⟩
  have u0 := (((Ext.refl w).alloc (.cells #[.int .i64 a, .int .i64 b] 24)).alloc (.cells #[.int .i64 0, .int .i64 d] 24)).alloc (.cells #[.int .i64 0, .int .i64 0] 24)
  have b2 := ((Box.new w 24 #[.int .i64 a, .int .i64 b] rfl).alloc (.cells #[.int .i64 0, .int .i64 d] 24)).alloc (.cells #[.int .i64 0, .int .i64 0] 24)
  have b3 := (Box.new (w.alloc (.cells #[.int .i64 a, .int .i64 b] 24)) 24 #[.int .i64 0, .int .i64 d] (b := w.heap.size + 1) (by simp)).alloc (.cells #[.int .i64 0, .int .i64 0] 24)
  have b4 := Box.new ((w.alloc (.cells #[.int .i64 a, .int .i64 b] 24)).alloc (.cells #[.int .i64 0, .int .i64 d] 24)) 24 #[.int .i64 0, .int .i64 0] (b := w.heap.size + 2) (by simp)
  have e30 := b3.cell 0 (by simp)
  have e31 := b3.cell 1 (by simp)
  have e40 := b4.cell 0 (by simp)
  have e41 := b4.cell 1 (by simp)
  have f0 := b4.free 0
  have f1 := b4.free 1
  clear hc
  go_enter Try.func23, Try.ntmps23
  go_wp2
  refine bodyPost_ret (v := .tuple #[.agg #[.int .i64 0, .int .i64 0], .bool false]) (by simp [results, Try.results23, go_sem, e40, e41]) rfl ⟨rfl, ?_⟩
  first | exact u0 | exact (u0.setCell _ (by simp; omega)).setCell _ (by simp; omega)
set_option maxHeartbeats 1600000 in
theorem specAddFrac_t (a b c d : Int) (w : World) :
    Calls Try.prog 7 #[.agg #[.int .i64 a, .int .i64 b], .agg #[.int .i64 c, .int .i64 d]] w fun e w' => e = .returned (.tuple #[.agg #[.int .i64 (adN a b c d), .int .i64 (adD a b c d)], .bool (adB a b c d)]) ∧ Ext w w' := by
  have u0 := (((Ext.refl w).alloc (.cells #[.int .i64 a, .int .i64 b] 24)).alloc (.cells #[.int .i64 c, .int .i64 d] 24)).alloc (.cells #[.int .i64 0, .int .i64 0] 24)
  have b2 := ((Box.new w 24 #[.int .i64 a, .int .i64 b] rfl).alloc (.cells #[.int .i64 c, .int .i64 d] 24)).alloc (.cells #[.int .i64 0, .int .i64 0] 24)
  have b3 := (Box.new (w.alloc (.cells #[.int .i64 a, .int .i64 b] 24)) 24 #[.int .i64 c, .int .i64 d] (b := w.heap.size + 1) (by simp)).alloc (.cells #[.int .i64 0, .int .i64 0] 24)
  have b4 := Box.new ((w.alloc (.cells #[.int .i64 a, .int .i64 b] 24)).alloc (.cells #[.int .i64 c, .int .i64 d] 24)) 24 #[.int .i64 0, .int .i64 0] (b := w.heap.size + 2) (by simp)
  cases h : adO a b c d
  · have h1 : adO a b c d = false := h
    simp only [adN, adD, adB, h1, Bool.false_and]
    clear h1
    have H := Lib.hid h; clear h
    go_enter Try.func7, Try.ntmps7
    go_wp2_with fail
    refine (fTwo_b false a b c d _ H.out).mono ?_
    rintro e w1 ⟨rfl, u1⟩
    have x4 := b4.ext u1
    have e40 := x4.cell 0 (by simp)
    have e41 := x4.cell 1 (by simp)
    have f0 := x4.free 0
    have f1 := x4.free 1
    go_wp2
    refine bodyPost_ret (v := .tuple #[.agg #[.int .i64 0, .int .i64 0], .bool false]) (by simp [results, Try.results7, go_sem, e40, e41]) rfl ⟨rfl, ?_⟩
    exact ((u0.trans u1).setCell _ (by simp; omega)).setCell _ (by simp; omega)
  · have hk : ∀ w, Calls Try.prog 22 #[.agg #[.int .i64 a, .int .i64 b], .agg #[.int .i64 c, .int .i64 d]] w fun e w' => e = .returned (.tuple #[.agg #[.int .i64 (adN a b c d), .int .i64 (adD a b c d)], .bool (adB a b c d)]) ∧ Ext w w' := by
      intro w
      obtain ⟨h1, h2⟩ := Bool.and_eq_true_iff.1 (show (goodF a b && goodF c d) = true from h)
      simp only [adN, adD, adB, h, Bool.true_and, if_true]
      exact fAdd_y a b c d w h1 h2
    have HK := Lib.hid hk; clear hk
    have H := Lib.hid h; clear h
    obtain ⟨N, hN⟩ : ∃ N, adN a b c d = N := ⟨_, rfl⟩
    obtain ⟨D, hD⟩ : ∃ D, adD a b c d = D := ⟨_, rfl⟩
    obtain ⟨G, hG⟩ : ∃ G, adB a b c d = G := ⟨_, rfl⟩
    rw [hN, hD, hG] at HK ⊢
    clear hN hD hG
    go_enter Try.func7, Try.ntmps7
    go_wp2_with fail
    refine (fTwo_b true a b c d _ H.out).mono ?_
    rintro e w1 ⟨rfl, u1⟩
    have e20 := (b2.ext u1).cell 0 (by simp)
    have e21 := (b2.ext u1).cell 1 (by simp)
    have e30 := (b3.ext u1).cell 0 (by simp)
    have e31 := (b3.ext u1).cell 1 (by simp)
    go_wp2_with fail
    refine (HK.out _).mono ?_
    rintro e w2 ⟨rfl, u2⟩
    have x4 := (b4.ext u1).ext u2
    have e40 := x4.cell 0 (by simp)
    have e41 := x4.cell 1 (by simp)
    have f0 := x4.free 0
    have f1 := x4.free 1
    go_wp2
    refine bodyPost_ret (v := .tuple #[.agg #[.int .i64 N, .int .i64 D], .bool G]) (by simp [results, Try.results7, go_sem, e40, e41]) rfl ⟨rfl, ?_⟩
    exact (((u0.trans u1).trans u2).setCell _ (by simp; omega)).setCell _ (by simp; omega)
set_option maxHeartbeats 1600000 in
theorem specDivFrac_t (a b c d : Int) (w : World) :
    Calls Try.prog 10 #[.agg #[.int .i64 a, .int .i64 b], .agg #[.int .i64 c, .int .i64 d]] w fun e w' => e = .returned (.tuple #[.agg #[.int .i64 (dvN a b c d), .int .i64 (dvD a b c d)], .bool (dvB a b c d)]) ∧ Ext w w' := by
  have u0 := (((Ext.refl w).alloc (.cells #[.int .i64 a, .int .i64 b] 24)).alloc (.cells #[.int .i64 c, .int .i64 d] 24)).alloc (.cells #[.int .i64 0, .int .i64 0] 24)
  have b2 := ((Box.new w 24 #[.int .i64 a, .int .i64 b] rfl).alloc (.cells #[.int .i64 c, .int .i64 d] 24)).alloc (.cells #[.int .i64 0, .int .i64 0] 24)
  have b3 := (Box.new (w.alloc (.cells #[.int .i64 a, .int .i64 b] 24)) 24 #[.int .i64 c, .int .i64 d] (b := w.heap.size + 1) (by simp)).alloc (.cells #[.int .i64 0, .int .i64 0] 24)
  have b4 := Box.new ((w.alloc (.cells #[.int .i64 a, .int .i64 b] 24)).alloc (.cells #[.int .i64 c, .int .i64 d] 24)) 24 #[.int .i64 0, .int .i64 0] (b := w.heap.size + 2) (by simp)
  cases h : adO a b c d
  · have h1 : dvO a b c d = false := by unfold dvO; unfold adO at h; rw [← Bool.and_assoc, h]; rfl
    simp only [dvN, dvD, dvB, h1, Bool.false_and]
    clear h1
    have H := Lib.hid h; clear h
    go_enter Try.func10, Try.ntmps10
    go_wp2_with fail
    refine (fTwo_b false a b c d _ H.out).mono ?_
    rintro e w1 ⟨rfl, u1⟩
    have x4 := b4.ext u1
    have e40 := x4.cell 0 (by simp)
    have e41 := x4.cell 1 (by simp)
    have f0 := x4.free 0
    have f1 := x4.free 1
    go_wp2
    refine bodyPost_ret (v := .tuple #[.agg #[.int .i64 0, .int .i64 0], .bool false]) (by simp [results, Try.results10, go_sem, e40, e41]) rfl ⟨rfl, ?_⟩
    exact ((u0.trans u1).setCell _ (by simp; omega)).setCell _ (by simp; omega)
  · have hk : ∀ w, Calls Try.prog 23 #[.agg #[.int .i64 a, .int .i64 b], .agg #[.int .i64 c, .int .i64 d]] w fun e w' => e = .returned (.tuple #[.agg #[.int .i64 (dvN a b c d), .int .i64 (dvD a b c d)], .bool (dvB a b c d)]) ∧ Ext w w' := by
      intro w
      obtain ⟨h1, h2⟩ := Bool.and_eq_true_iff.1 (show (goodF a b && goodF c d) = true from h)
      by_cases h0 : c = 0
      · subst h0
        have h3 : dvO a b 0 d = false := by unfold dvO; simp
        simp only [dvN, dvD, dvB, h3, Bool.false_and]
        exact fDiv_0 a b d w
      · have h3 : dvO a b c d = true := by unfold dvO; rw [h1, h2]; simp [h0]
        simp only [dvN, dvD, dvB, h3, Bool.true_and, if_true]
        exact fDiv_y a b c d w h1 h2 h0
    have HK := Lib.hid hk; clear hk
    have H := Lib.hid h; clear h
    obtain ⟨N, hN⟩ : ∃ N, dvN a b c d = N := ⟨_, rfl⟩
    obtain ⟨D, hD⟩ : ∃ D, dvD a b c d = D := ⟨_, rfl⟩
    obtain ⟨G, hG⟩ : ∃ G, dvB a b c d = G := ⟨_, rfl⟩
    rw [hN, hD, hG] at HK ⊢
    clear hN hD hG
    go_enter Try.func10, Try.ntmps10
    go_wp2_with fail
    refine (fTwo_b true a b c d _ H.out).mono ?_
    rintro e w1 ⟨rfl, u1⟩
    have e20 := (b2.ext u1).cell 0 (by simp)
    have e21 := (b2.ext u1).cell 1 (by simp)
    have e30 := (b3.ext u1).cell 0 (by simp)
    have e31 := (b3.ext u1).cell 1 (by simp)
    go_wp2_with fail
    refine (HK.out _).mono ?_
    rintro e w2 ⟨rfl, u2⟩
    have x4 := (b4.ext u1).ext u2
    have e40 := x4.cell 0 (by simp)
    have e41 := x4.cell 1 (by simp)
    have f0 := x4.free 0
    have f1 := x4.free 1
    go_wp2
    refine bodyPost_ret (v := .tuple #[.agg #[.int .i64 N, .int .i64 D], .bool G]) (by simp [results, Try.results10, go_sem, e40, e41]) rfl ⟨rfl, ?_⟩
    exact (((u0.trans u1).trans u2).setCell _ (by simp; omega)).setCell _ (by simp; omega)
set_option maxHeartbeats 1600000 in
theorem cmpFrac_c (a b c d : Int) (w : World) (ha : goodF a b = true) (hc : goodF c d = true) : Calls Try.prog 25 #[.agg #[.int .i64 a, .int .i64 b], .agg #[.int .i64 c, .int .i64 d]] w fun e w' => e = .returned (.int .i64 (sgn (a * d - c * b))) ∧ Ext w w' := by
  obtain ⟨h1, h2, h3, h4, _⟩ := goodF_bounds ha
  obtain ⟨g1, g2, g3, g4, _⟩ := goodF_bounds hc
  have m1 := mul_bound (a := a) (b := d) ⟨h3, h4⟩ ⟨by omega, g2⟩
  have m2 := mul_bound (a := c) (b := b) ⟨g3, g4⟩ ⟨by omega, h2⟩
  have hw0 : IntKind.i64.wrap (a * d) = a * d := IntWalk.i64_in _ (by omega)
  have hw1 : IntKind.i64.wrap (c * b) = c * b := IntWalk.i64_in _ (by omega)
  clear m1 m2
  have u0 := ((Ext.refl w).alloc (.cells #[.int .i64 a, .int .i64 b] 24)).alloc (.cells #[.int .i64 c, .int .i64 d] 24)
  have b2 := (Box.new w 24 #[.int .i64 a, .int .i64 b] rfl).alloc (.cells #[.int .i64 c, .int .i64 d] 24)
  have b3 := Box.new (w.alloc (.cells #[.int .i64 a, .int .i64 b] 24)) 24 #[.int .i64 c, .int .i64 d] (b := w.heap.size + 1) (by simp)
  have e20 : _ = some (Value.int .i64 a) := b2.cell 0 (by simp)
  have e21 : _ = some (Value.int .i64 b) := b2.cell 1 (by simp)
  have e30 : _ = some (Value.int .i64 c) := b3.cell 0 (by simp)
  have e31 : _ = some (Value.int .i64 d) := b3.cell 1 (by simp)
  by_cases q1 : a * d < c * b
  · have hs : sgn (a * d - c * b) = -1 := by unfold sgn; rw [if_pos (by omega)]
    rw [hs]
    clear hs
    go_enter Try.func25, Try.ntmps25
    go_wp2
    go_quiet (fail)
    go_wp2
    go_ret
    exact ⟨rfl, u0.drewN _⟩
  · have q1' : decide (a * d < c * b) = false := decide_eq_false q1
    by_cases q2 : c * b < a * d
    · have hs : sgn (a * d - c * b) = 1 := by unfold sgn; rw [if_neg (by omega), if_pos (by omega)]
      rw [hs]
      clear hs
      go_enter Try.func25, Try.ntmps25
      go_wp2
      go_quiet (fail)
      go_wp2
      go_ret
      exact ⟨rfl, u0.drewN _⟩
    · have q2' : decide (c * b < a * d) = false := decide_eq_false q2
      have hs : sgn (a * d - c * b) = 0 := by unfold sgn; rw [if_neg (by omega), if_neg (by omega)]
      rw [hs]
      clear hs
      go_enter Try.func25, Try.ntmps25
      go_wp2
      go_quiet (fail)
      go_wp2
      go_ret
      exact ⟨rfl, u0.drewN _⟩
set_option maxHeartbeats 1600000 in
theorem compare_c (a b c d : Int) (w : World) (ha : goodF a b = true) (hc : goodF c d = true) : Calls Try.prog 14 #[.agg #[.int .i64 a, .int .i64 b], .agg #[.int .i64 c, .int .i64 d]] w fun e w' => e = .returned (.tuple #[.int .i64 (sgn (a * d - c * b)), .bool true]) ∧ Ext w w' := by
  have u0 := ((Ext.refl w).alloc (.cells #[.int .i64 a, .int .i64 b] 24)).alloc (.cells #[.int .i64 c, .int .i64 d] 24)
  have b2 := (Box.new w 24 #[.int .i64 a, .int .i64 b] rfl).alloc (.cells #[.int .i64 c, .int .i64 d] 24)
  have b3 := Box.new (w.alloc (.cells #[.int .i64 a, .int .i64 b] 24)) 24 #[.int .i64 c, .int .i64 d] (b := w.heap.size + 1) (by simp)
  obtain ⟨S, hS⟩ : ∃ S, sgn (a * d - c * b) = S := ⟨_, rfl⟩
  have hk : ∀ w, Calls Try.prog 25 #[.agg #[.int .i64 a, .int .i64 b], .agg #[.int .i64 c, .int .i64 d]] w fun e w' => e = .returned (.int .i64 S) ∧ Ext w w' := by
    intro w; rw [← hS]; exact cmpFrac_c a b c d w ha hc
  rw [hS]
  have HK := Lib.hid hk; clear hk hS
  have HA := Lib.hid ha; clear ha
  have HC := Lib.hid hc; clear hc
  go_enter Try.func14, Try.ntmps14
  go_wp2_with fail
  refine (isFrac_b true a b _ HA.out).mono ?_
  rintro e w1 ⟨rfl, u1⟩
  have x2 := b2.ext u1
  have x3 := b3.ext u1
  have e30 := x3.cell 0 (by simp)
  have e31 := x3.cell 1 (by simp)
  go_wp2_with fail
  refine (isFrac_b true c d _ HC.out).mono ?_
  rintro e w2 ⟨rfl, u2⟩
  have k20 := (x2.ext u2).cell 0 (by simp)
  have k21 := (x2.ext u2).cell 1 (by simp)
  have k30 := (x3.ext u2).cell 0 (by simp)
  have k31 := (x3.ext u2).cell 1 (by simp)
  go_wp2_with fail
  refine (HK.out _).mono ?_
  rintro e w3 ⟨rfl, u3⟩
  go_wp2
  refine bodyPost_ret (v := .tuple #[.int .i64 S, .bool true]) (by simp [results, Try.results14, go_sem]) rfl ⟨rfl, ?_⟩
  exact ((u0.trans u1).trans u2).trans u3
end Go.Proofs.Ytmhofeljieicaaa
