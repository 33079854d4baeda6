/- Valid tables and plans: the spec's and the program's checks. -/
import Derived.Test.YtolmmhdeebgglaaTc
namespace Go.Proofs.Ytolmmhdeebgglaa
open Go.RowKit

def TabP (par : List Int) (s : List Vr) (t : Ta) : Prop := Rising (s.length : Int) t.vars ∧ WhereP s t.cond ∧ (-1 ≤ t.sum ∧ t.sum < s.length) ∧ (levL par t.level).length ≠ 0 ∧ uCnt par s t ≤ 600
open Classical in
noncomputable def tabB (par : List Int) (s : List Vr) (t : Ta) : Bool := decide (TabP par s t)
theorem tabB_true {par : List Int} {s : List Vr} {t : Ta} : tabB par s t = true ↔ TabP par s t := by simp [tabB]
theorem tabB_not {par : List Int} {s : List Vr} {t : Ta} (h : ¬ TabP par s t) : tabB par s t = false := by simp [tabB, h]
/-- geography, schema and table are right -/
noncomputable def allB (par : List Int) (s : List Vr) (t : Ta) : Bool := geoB par && schB s && tabB par s t
def AllP (par : List Int) (s : List Vr) (t : Ta) : Prop := GeoP par ∧ SchP s ∧ TabP par s t
theorem allB_true {par : List Int} {s : List Vr} {t : Ta} : allB par s t = true ↔ AllP par s t := by
  simp [allB, AllP, geoB_true, schB_true, tabB_true, and_assoc]
theorem allB_not {par : List Int} {s : List Vr} {t : Ta} (h : ¬ AllP par s t) : allB par s t = false := by
  cases e : allB par s t
  · rfl
  · exact absurd (allB_true.1 e) h
def PlanP (par : List Int) (s : List Vr) (l : List Ta) : Prop := GeoP par ∧ SchP s ∧ l.length ≤ 20 ∧ ∀ k, k < l.length → TabP par s (taAt l k)
open Classical in
noncomputable def planB (par : List Int) (s : List Vr) (l : List Ta) : Bool := decide (PlanP par s l)
theorem planB_true {par : List Int} {s : List Vr} {l : List Ta} : planB par s l = true ↔ PlanP par s l := by simp [planB]
theorem planB_not {par : List Int} {s : List Vr} {l : List Ta} (h : ¬ PlanP par s l) : planB par s l = false := by simp [planB, h]

set_option maxHeartbeats 3200000 in
theorem uGood_b (b : Bool) (v1 v2 v3 : Value) (T : Ge) (s : List Vr) (t : Ta) (w : World) (hb : allB T.par s t = b) (h1 : GeR w v1 T) (h2 : Vrs w v2 s) (h3 : TaR w v3 t) (hw : WfV s) :
    Calls Try.prog 49 #[v1, v2, v3] w fun e w' => e = .returned (.bool b) ∧ Ext w w' := by
  subst hb
  have HWV := Lib.hid hw; clear hw
  have R1 := Lib.hid h1
  have R2 := Lib.hid h2; clear h2
  have R3 := Lib.hid h3
  obtain ⟨y1, rfl, i1⟩ := h1
  clear i1
  obtain ⟨x1, x2, rfl, i1, i2⟩ := h3
  have I1 := Lib.hid i1; clear i1
  have I2 := Lib.hid i2; clear i2
  obtain ⟨sa, sc, ev, sl⟩ : ∃ sa sc, v2 = .slice sa s.length sc ∧ s.length ≤ 9223372036854775807 := by
    obtain ⟨sa, sc, e, l1, l2, _⟩ := R2.out; exact ⟨sa, sc, e, by omega⟩
  subst ev
  obtain ⟨A, hA⟩ : ∃ A, t.level = A := ⟨_, rfl⟩
  obtain ⟨B, hB⟩ : ∃ B, t.sum = B := ⟨_, rfl⟩
  rw [hA, hB] at R3
  rw [hA, hB]
  have HAB := Lib.hid (And.intro hA hB); clear hA hB
  have u0 := ((Ext.refl w).alloc (.cells #[y1] 33)).alloc (.cells #[.int .i64 A, x1, x2, .int .i64 B] 56)
  have b1 := (Box.new w 33 #[y1] rfl).alloc (.cells #[.int .i64 A, x1, x2, .int .i64 B] 56)
  have b2 := Box.new (w.alloc (.cells #[y1] 33)) 56 #[.int .i64 A, x1, x2, .int .i64 B] (b := w.heap.size + 1) (by simp)
  have R1 := Lib.hid (R1.out.ext u0)
  have R2 := Lib.hid (R2.out.ext u0)
  have R3 := Lib.hid (R3.out.ext u0)
  have I1 := Lib.hid (I1.out.ext u0)
  have I2 := Lib.hid (I2.out.ext u0)
  by_cases hg : GeoP T.par
  case neg =>
    have HGB := Lib.hid (geoB_not hg)
    have HB := Lib.hid (allB_not (s := s) (t := t) (fun h => hg h.1))
    clear hg
    go_enter Try.func49, Try.ntmps49
    go_wp2_with fail
    obtain ⟨wq, hwq⟩ : ∃ wq, wq = (w.alloc (.cells #[y1] 33)).alloc (.cells #[.int .i64 A, x1, x2, .int .i64 B] 56) := ⟨_, rfl⟩
    rw [← hwq] at u0 b1 b2 R1 R2 R3 I1 I2 ⊢
    clear hwq
    have c0 := ((b1)).cell 0 (by simp)
    have d0 := ((b2)).cell 0 (by simp)
    have e0 := ((b2)).cell 1 (by simp)
    have f0 := ((b2)).cell 2 (by simp)
    have g0 := ((b2)).cell 3 (by simp)
    refine (gGood_b false _ T _ HGB.out (R1.out.ext (Ext.refl wq))).mono ?_
    rintro e w1 ⟨rfl, u1⟩
    have uu1 : Ext wq w1 := u1
    clear c0 d0 e0 f0 g0
    have c1 := ((b1).ext uu1).cell 0 (by simp)
    have d1 := ((b2).ext uu1).cell 0 (by simp)
    have e1 := ((b2).ext uu1).cell 1 (by simp)
    have f1 := ((b2).ext uu1).cell 2 (by simp)
    have g1 := ((b2).ext uu1).cell 3 (by simp)
    go_wp2
    go_ret
    exact ⟨ret_bool (by have hx := HB.out; first | exact hx.symm | (rw [hx]; simp; omega)), u0.trans (uu1)⟩
  have HGB := Lib.hid (geoB_true.2 hg)
  have HGP := Lib.hid hg
  by_cases hs : SchP s
  case neg =>
    have HSB : Hid (schB s = false) := Lib.hid (by cases e : schB s; rfl; exact absurd (schB_true.1 e) hs)
    have HB := Lib.hid (allB_not (par := T.par) (t := t) (fun h => hs h.2.1))
    clear hs hg
    go_enter Try.func49, Try.ntmps49
    go_wp2_with fail
    obtain ⟨wq, hwq⟩ : ∃ wq, wq = (w.alloc (.cells #[y1] 33)).alloc (.cells #[.int .i64 A, x1, x2, .int .i64 B] 56) := ⟨_, rfl⟩
    rw [← hwq] at u0 b1 b2 R1 R2 R3 I1 I2 ⊢
    clear hwq
    have c0 := ((b1)).cell 0 (by simp)
    have d0 := ((b2)).cell 0 (by simp)
    have e0 := ((b2)).cell 1 (by simp)
    have f0 := ((b2)).cell 2 (by simp)
    have g0 := ((b2)).cell 3 (by simp)
    refine (gGood_b true _ T _ HGB.out (R1.out.ext (Ext.refl wq))).mono ?_
    rintro e w1 ⟨rfl, u1⟩
    have uu1 : Ext wq w1 := u1
    clear c0 d0 e0 f0 g0
    have c1 := ((b1).ext uu1).cell 0 (by simp)
    have d1 := ((b2).ext uu1).cell 0 (by simp)
    have e1 := ((b2).ext uu1).cell 1 (by simp)
    have f1 := ((b2).ext uu1).cell 2 (by simp)
    have g1 := ((b2).ext uu1).cell 3 (by simp)
    go_wp2_with fail
    refine (sGood_b false _ s _ HSB.out (R2.out.ext (uu1)) HWV.out).mono ?_
    rintro e w2 ⟨rfl, u2⟩
    have uu2 : Ext wq w2 := uu1.trans u2
    clear c1 d1 e1 f1 g1
    have c2 := ((b1).ext uu2).cell 0 (by simp)
    have d2 := ((b2).ext uu2).cell 0 (by simp)
    have e2 := ((b2).ext uu2).cell 1 (by simp)
    have f2 := ((b2).ext uu2).cell 2 (by simp)
    have g2 := ((b2).ext uu2).cell 3 (by simp)
    go_wp2
    go_ret
    exact ⟨ret_bool (by have hx := HB.out; first | exact hx.symm | (rw [hx]; simp; omega)), u0.trans (uu2)⟩
  have HSB := Lib.hid (schB_true.2 hs)
  have HSP := Lib.hid hs
  clear hg hs
  by_cases hl : (levL T.par A).length = 0
  case pos =>
    have HLV := Lib.hid hl
    have HB := Lib.hid (allB_not (par := T.par) (s := s) (t := t) (fun h => h.2.2.2.2.2.1 (by rw [HAB.out.1]; exact hl)))
    clear hl
    go_enter Try.func49, Try.ntmps49
    go_wp2_with fail
    obtain ⟨wq, hwq⟩ : ∃ wq, wq = (w.alloc (.cells #[y1] 33)).alloc (.cells #[.int .i64 A, x1, x2, .int .i64 B] 56) := ⟨_, rfl⟩
    rw [← hwq] at u0 b1 b2 R1 R2 R3 I1 I2 ⊢
    clear hwq
    have c0 := ((b1)).cell 0 (by simp)
    have d0 := ((b2)).cell 0 (by simp)
    have e0 := ((b2)).cell 1 (by simp)
    have f0 := ((b2)).cell 2 (by simp)
    have g0 := ((b2)).cell 3 (by simp)
    refine (gGood_b true _ T _ HGB.out (R1.out.ext (Ext.refl wq))).mono ?_
    rintro e w1 ⟨rfl, u1⟩
    have uu1 : Ext wq w1 := u1
    clear c0 d0 e0 f0 g0
    have c1 := ((b1).ext uu1).cell 0 (by simp)
    have d1 := ((b2).ext uu1).cell 0 (by simp)
    have e1 := ((b2).ext uu1).cell 1 (by simp)
    have f1 := ((b2).ext uu1).cell 2 (by simp)
    have g1 := ((b2).ext uu1).cell 3 (by simp)
    go_wp2_with fail
    refine (sGood_b true _ s _ HSB.out (R2.out.ext (uu1)) HWV.out).mono ?_
    rintro e w2 ⟨rfl, u2⟩
    have uu2 : Ext wq w2 := uu1.trans u2
    clear c1 d1 e1 f1 g1
    have c2 := ((b1).ext uu2).cell 0 (by simp)
    have d2 := ((b2).ext uu2).cell 0 (by simp)
    have e2 := ((b2).ext uu2).cell 1 (by simp)
    have f2 := ((b2).ext uu2).cell 2 (by simp)
    have g2 := ((b2).ext uu2).cell 3 (by simp)
    go_wp2_with fail
    refine (gLevel_c _ T A _ (R1.out.ext (uu2)) HGP.out).mono ?_
    rintro e w3 ⟨z, rfl, iz, u3⟩
    have uu3 : Ext wq w3 := uu2.trans u3
    clear c2 d2 e2 f2 g2
    have c3 := ((b1).ext uu3).cell 0 (by simp)
    have d3 := ((b2).ext uu3).cell 0 (by simp)
    have e3 := ((b2).ext uu3).cell 1 (by simp)
    have f3 := ((b2).ext uu3).cell 2 (by simp)
    have g3 := ((b2).ext uu3).cell 3 (by simp)
    obtain ⟨az, cz, rfl, _, _, _⟩ := iz
    obtain ⟨L, hL⟩ : ∃ L, (levL T.par A).length = L := ⟨_, rfl⟩
    rw [hL]
    have HL := Lib.hid hL; clear hL
    have hq : ((L : Int) == 0) = true := by have := HLV.out; rw [HL.out] at this; simp; omega
    go_wp2
    go_ret
    exact ⟨ret_bool (by have hx := HB.out; first | exact hx.symm | (rw [hx]; simp; omega)), u0.trans (uu3)⟩
  have HLV := Lib.hid hl; clear hl
  by_cases hr : Rising (s.length : Int) t.vars
  case neg =>
    have HRB := Lib.hid (risingB_false hr)
    have HB := Lib.hid (allB_not (par := T.par) (s := s) (t := t) (fun h => hr h.2.2.1))
    clear hr
    go_enter Try.func49, Try.ntmps49
    go_wp2_with fail
    obtain ⟨wq, hwq⟩ : ∃ wq, wq = (w.alloc (.cells #[y1] 33)).alloc (.cells #[.int .i64 A, x1, x2, .int .i64 B] 56) := ⟨_, rfl⟩
    rw [← hwq] at u0 b1 b2 R1 R2 R3 I1 I2 ⊢
    clear hwq
    have c0 := ((b1)).cell 0 (by simp)
    have d0 := ((b2)).cell 0 (by simp)
    have e0 := ((b2)).cell 1 (by simp)
    have f0 := ((b2)).cell 2 (by simp)
    have g0 := ((b2)).cell 3 (by simp)
    refine (gGood_b true _ T _ HGB.out (R1.out.ext (Ext.refl wq))).mono ?_
    rintro e w1 ⟨rfl, u1⟩
    have uu1 : Ext wq w1 := u1
    clear c0 d0 e0 f0 g0
    have c1 := ((b1).ext uu1).cell 0 (by simp)
    have d1 := ((b2).ext uu1).cell 0 (by simp)
    have e1 := ((b2).ext uu1).cell 1 (by simp)
    have f1 := ((b2).ext uu1).cell 2 (by simp)
    have g1 := ((b2).ext uu1).cell 3 (by simp)
    go_wp2_with fail
    refine (sGood_b true _ s _ HSB.out (R2.out.ext (uu1)) HWV.out).mono ?_
    rintro e w2 ⟨rfl, u2⟩
    have uu2 : Ext wq w2 := uu1.trans u2
    clear c1 d1 e1 f1 g1
    have c2 := ((b1).ext uu2).cell 0 (by simp)
    have d2 := ((b2).ext uu2).cell 0 (by simp)
    have e2 := ((b2).ext uu2).cell 1 (by simp)
    have f2 := ((b2).ext uu2).cell 2 (by simp)
    have g2 := ((b2).ext uu2).cell 3 (by simp)
    go_wp2_with fail
    refine (gLevel_c _ T A _ (R1.out.ext (uu2)) HGP.out).mono ?_
    rintro e w3 ⟨z, rfl, iz, u3⟩
    have uu3 : Ext wq w3 := uu2.trans u3
    clear c2 d2 e2 f2 g2
    have c3 := ((b1).ext uu3).cell 0 (by simp)
    have d3 := ((b2).ext uu3).cell 0 (by simp)
    have e3 := ((b2).ext uu3).cell 1 (by simp)
    have f3 := ((b2).ext uu3).cell 2 (by simp)
    have g3 := ((b2).ext uu3).cell 3 (by simp)
    obtain ⟨az, cz, rfl, _, _, _⟩ := iz
    obtain ⟨L, hL⟩ : ∃ L, (levL T.par A).length = L := ⟨_, rfl⟩
    rw [hL]
    have HL := Lib.hid hL; clear hL
    have hq : ((L : Int) == 0) = false := by have := HLV.out; rw [HL.out] at this; simp; omega
    go_wp2_with fail
    refine (l1Rising_b false _ t.vars s.length _ _ HRB.out rfl (I1.out.ext (uu3))).mono ?_
    rintro e ws4 ⟨rfl, hws⟩
    rw [hws]
    clear hws ws4
    go_wp2
    go_ret
    exact ⟨ret_bool (by have hx := HB.out; first | exact hx.symm | (rw [hx]; simp; omega)), u0.trans (uu3)⟩
  have HRB := Lib.hid (risingB_true.2 hr)
  have HRI := Lib.hid hr; clear hr
  by_cases hwh : WhereP s t.cond
  case neg =>
    have HWB := Lib.hid (whereB_not hwh)
    have HB := Lib.hid (allB_not (par := T.par) (s := s) (t := t) (fun h => hwh h.2.2.2.1))
    clear hwh
    go_enter Try.func49, Try.ntmps49
    go_wp2_with fail
    obtain ⟨wq, hwq⟩ : ∃ wq, wq = (w.alloc (.cells #[y1] 33)).alloc (.cells #[.int .i64 A, x1, x2, .int .i64 B] 56) := ⟨_, rfl⟩
    rw [← hwq] at u0 b1 b2 R1 R2 R3 I1 I2 ⊢
    clear hwq
    have c0 := ((b1)).cell 0 (by simp)
    have d0 := ((b2)).cell 0 (by simp)
    have e0 := ((b2)).cell 1 (by simp)
    have f0 := ((b2)).cell 2 (by simp)
    have g0 := ((b2)).cell 3 (by simp)
    refine (gGood_b true _ T _ HGB.out (R1.out.ext (Ext.refl wq))).mono ?_
    rintro e w1 ⟨rfl, u1⟩
    have uu1 : Ext wq w1 := u1
    clear c0 d0 e0 f0 g0
    have c1 := ((b1).ext uu1).cell 0 (by simp)
    have d1 := ((b2).ext uu1).cell 0 (by simp)
    have e1 := ((b2).ext uu1).cell 1 (by simp)
    have f1 := ((b2).ext uu1).cell 2 (by simp)
    have g1 := ((b2).ext uu1).cell 3 (by simp)
    go_wp2_with fail
    refine (sGood_b true _ s _ HSB.out (R2.out.ext (uu1)) HWV.out).mono ?_
    rintro e w2 ⟨rfl, u2⟩
    have uu2 : Ext wq w2 := uu1.trans u2
    clear c1 d1 e1 f1 g1
    have c2 := ((b1).ext uu2).cell 0 (by simp)
    have d2 := ((b2).ext uu2).cell 0 (by simp)
    have e2 := ((b2).ext uu2).cell 1 (by simp)
    have f2 := ((b2).ext uu2).cell 2 (by simp)
    have g2 := ((b2).ext uu2).cell 3 (by simp)
    go_wp2_with fail
    refine (gLevel_c _ T A _ (R1.out.ext (uu2)) HGP.out).mono ?_
    rintro e w3 ⟨z, rfl, iz, u3⟩
    have uu3 : Ext wq w3 := uu2.trans u3
    clear c2 d2 e2 f2 g2
    have c3 := ((b1).ext uu3).cell 0 (by simp)
    have d3 := ((b2).ext uu3).cell 0 (by simp)
    have e3 := ((b2).ext uu3).cell 1 (by simp)
    have f3 := ((b2).ext uu3).cell 2 (by simp)
    have g3 := ((b2).ext uu3).cell 3 (by simp)
    obtain ⟨az, cz, rfl, _, _, _⟩ := iz
    obtain ⟨L, hL⟩ : ∃ L, (levL T.par A).length = L := ⟨_, rfl⟩
    rw [hL]
    have HL := Lib.hid hL; clear hL
    have hq : ((L : Int) == 0) = false := by have := HLV.out; rw [HL.out] at this; simp; omega
    go_wp2_with fail
    refine (l1Rising_b true _ t.vars s.length _ _ HRB.out rfl (I1.out.ext (uu3))).mono ?_
    rintro e ws4 ⟨rfl, hws⟩
    rw [hws]
    clear hws ws4
    go_wp2_with fail
    refine (uWhere_b false _ _ s t.cond _ HWB.out (R2.out.ext (uu3)) (I2.out.ext (uu3)) HSP.out.lev).mono ?_
    rintro e w4 ⟨rfl, u4⟩
    have uu4 : Ext wq w4 := uu3.trans u4
    clear c3 d3 e3 f3 g3
    have c4 := ((b1).ext uu4).cell 0 (by simp)
    have d4 := ((b2).ext uu4).cell 0 (by simp)
    have e4 := ((b2).ext uu4).cell 1 (by simp)
    have f4 := ((b2).ext uu4).cell 2 (by simp)
    have g4 := ((b2).ext uu4).cell 3 (by simp)
    go_wp2
    go_ret
    exact ⟨ret_bool (by have hx := HB.out; first | exact hx.symm | (rw [hx]; simp; omega)), u0.trans (uu4)⟩
  have HWB := Lib.hid (whereB_true.2 hwh)
  have HWH := Lib.hid hwh; clear hwh
  by_cases hsu : -1 ≤ B ∧ B < s.length
  case neg =>
    have HSU : Hid ((decide (-1 ≤ B) && decide (B ≤ (s.length : Int) - 1)) = false) := Lib.hid (by rw [Bool.and_eq_false_iff]; simp only [decide_eq_false_iff_not]; omega)
    have HB := Lib.hid (allB_not (par := T.par) (s := s) (t := t) (fun h => hsu (by rw [← HAB.out.2]; exact h.2.2.2.2.1)))
    clear hsu
    go_enter Try.func49, Try.ntmps49
    go_wp2_with fail
    obtain ⟨wq, hwq⟩ : ∃ wq, wq = (w.alloc (.cells #[y1] 33)).alloc (.cells #[.int .i64 A, x1, x2, .int .i64 B] 56) := ⟨_, rfl⟩
    rw [← hwq] at u0 b1 b2 R1 R2 R3 I1 I2 ⊢
    clear hwq
    have c0 := ((b1)).cell 0 (by simp)
    have d0 := ((b2)).cell 0 (by simp)
    have e0 := ((b2)).cell 1 (by simp)
    have f0 := ((b2)).cell 2 (by simp)
    have g0 := ((b2)).cell 3 (by simp)
    refine (gGood_b true _ T _ HGB.out (R1.out.ext (Ext.refl wq))).mono ?_
    rintro e w1 ⟨rfl, u1⟩
    have uu1 : Ext wq w1 := u1
    clear c0 d0 e0 f0 g0
    have c1 := ((b1).ext uu1).cell 0 (by simp)
    have d1 := ((b2).ext uu1).cell 0 (by simp)
    have e1 := ((b2).ext uu1).cell 1 (by simp)
    have f1 := ((b2).ext uu1).cell 2 (by simp)
    have g1 := ((b2).ext uu1).cell 3 (by simp)
    go_wp2_with fail
    refine (sGood_b true _ s _ HSB.out (R2.out.ext (uu1)) HWV.out).mono ?_
    rintro e w2 ⟨rfl, u2⟩
    have uu2 : Ext wq w2 := uu1.trans u2
    clear c1 d1 e1 f1 g1
    have c2 := ((b1).ext uu2).cell 0 (by simp)
    have d2 := ((b2).ext uu2).cell 0 (by simp)
    have e2 := ((b2).ext uu2).cell 1 (by simp)
    have f2 := ((b2).ext uu2).cell 2 (by simp)
    have g2 := ((b2).ext uu2).cell 3 (by simp)
    go_wp2_with fail
    refine (gLevel_c _ T A _ (R1.out.ext (uu2)) HGP.out).mono ?_
    rintro e w3 ⟨z, rfl, iz, u3⟩
    have uu3 : Ext wq w3 := uu2.trans u3
    clear c2 d2 e2 f2 g2
    have c3 := ((b1).ext uu3).cell 0 (by simp)
    have d3 := ((b2).ext uu3).cell 0 (by simp)
    have e3 := ((b2).ext uu3).cell 1 (by simp)
    have f3 := ((b2).ext uu3).cell 2 (by simp)
    have g3 := ((b2).ext uu3).cell 3 (by simp)
    obtain ⟨az, cz, rfl, _, _, _⟩ := iz
    obtain ⟨L, hL⟩ : ∃ L, (levL T.par A).length = L := ⟨_, rfl⟩
    rw [hL]
    have HL := Lib.hid hL; clear hL
    have hq : ((L : Int) == 0) = false := by have := HLV.out; rw [HL.out] at this; simp; omega
    go_wp2_with fail
    refine (l1Rising_b true _ t.vars s.length _ _ HRB.out rfl (I1.out.ext (uu3))).mono ?_
    rintro e ws4 ⟨rfl, hws⟩
    rw [hws]
    clear hws ws4
    go_wp2_with fail
    refine (uWhere_b true _ _ s t.cond _ HWB.out (R2.out.ext (uu3)) (I2.out.ext (uu3)) HSP.out.lev).mono ?_
    rintro e w4 ⟨rfl, u4⟩
    have uu4 : Ext wq w4 := uu3.trans u4
    clear c3 d3 e3 f3 g3
    have c4 := ((b1).ext uu4).cell 0 (by simp)
    have d4 := ((b2).ext uu4).cell 0 (by simp)
    have e4 := ((b2).ext uu4).cell 1 (by simp)
    have f4 := ((b2).ext uu4).cell 2 (by simp)
    have g4 := ((b2).ext uu4).cell 3 (by simp)
    go_wp2_with fail
    refine (l1In_b false B (-1) ((s.length : Int) - 1) _ HSU.out).mono ?_
    rintro e ws5 ⟨rfl, hws⟩
    rw [hws]
    clear hws ws5
    go_wp2
    go_ret
    exact ⟨ret_bool (by have hx := HB.out; first | exact hx.symm | (rw [hx]; simp; omega)), u0.trans (uu4)⟩
  have HSU : Hid ((decide (-1 ≤ B) && decide (B ≤ (s.length : Int) - 1)) = true) := Lib.hid (by simp; omega)
  have HSX := Lib.hid hsu; clear hsu
  obtain ⟨U, hU⟩ : ∃ U, uCnt T.par s t = U := ⟨_, rfl⟩
  have HUC := Lib.hid hU; clear hU
  by_cases hu : U ≤ 600
  case pos =>
    have HB := Lib.hid (allB_true.2 ⟨HGP.out, HSP.out, HRI.out, HWH.out, by rw [HAB.out.2]; exact HSX.out, by rw [HAB.out.1]; exact HLV.out, by rw [HUC.out]; exact hu⟩)
    go_enter Try.func49, Try.ntmps49
    go_wp2_with fail
    obtain ⟨wq, hwq⟩ : ∃ wq, wq = (w.alloc (.cells #[y1] 33)).alloc (.cells #[.int .i64 A, x1, x2, .int .i64 B] 56) := ⟨_, rfl⟩
    rw [← hwq] at u0 b1 b2 R1 R2 R3 I1 I2 ⊢
    clear hwq
    have c0 := ((b1)).cell 0 (by simp)
    have d0 := ((b2)).cell 0 (by simp)
    have e0 := ((b2)).cell 1 (by simp)
    have f0 := ((b2)).cell 2 (by simp)
    have g0 := ((b2)).cell 3 (by simp)
    refine (gGood_b true _ T _ HGB.out (R1.out.ext (Ext.refl wq))).mono ?_
    rintro e w1 ⟨rfl, u1⟩
    have uu1 : Ext wq w1 := u1
    clear c0 d0 e0 f0 g0
    have c1 := ((b1).ext uu1).cell 0 (by simp)
    have d1 := ((b2).ext uu1).cell 0 (by simp)
    have e1 := ((b2).ext uu1).cell 1 (by simp)
    have f1 := ((b2).ext uu1).cell 2 (by simp)
    have g1 := ((b2).ext uu1).cell 3 (by simp)
    go_wp2_with fail
    refine (sGood_b true _ s _ HSB.out (R2.out.ext (uu1)) HWV.out).mono ?_
    rintro e w2 ⟨rfl, u2⟩
    have uu2 : Ext wq w2 := uu1.trans u2
    clear c1 d1 e1 f1 g1
    have c2 := ((b1).ext uu2).cell 0 (by simp)
    have d2 := ((b2).ext uu2).cell 0 (by simp)
    have e2 := ((b2).ext uu2).cell 1 (by simp)
    have f2 := ((b2).ext uu2).cell 2 (by simp)
    have g2 := ((b2).ext uu2).cell 3 (by simp)
    go_wp2_with fail
    refine (gLevel_c _ T A _ (R1.out.ext (uu2)) HGP.out).mono ?_
    rintro e w3 ⟨z, rfl, iz, u3⟩
    have uu3 : Ext wq w3 := uu2.trans u3
    clear c2 d2 e2 f2 g2
    have c3 := ((b1).ext uu3).cell 0 (by simp)
    have d3 := ((b2).ext uu3).cell 0 (by simp)
    have e3 := ((b2).ext uu3).cell 1 (by simp)
    have f3 := ((b2).ext uu3).cell 2 (by simp)
    have g3 := ((b2).ext uu3).cell 3 (by simp)
    obtain ⟨az, cz, rfl, _, _, _⟩ := iz
    obtain ⟨L, hL⟩ : ∃ L, (levL T.par A).length = L := ⟨_, rfl⟩
    rw [hL]
    have HL := Lib.hid hL; clear hL
    have hq : ((L : Int) == 0) = false := by have := HLV.out; rw [HL.out] at this; simp; omega
    go_wp2_with fail
    refine (l1Rising_b true _ t.vars s.length _ _ HRB.out rfl (I1.out.ext (uu3))).mono ?_
    rintro e ws4 ⟨rfl, hws⟩
    rw [hws]
    clear hws ws4
    go_wp2_with fail
    refine (uWhere_b true _ _ s t.cond _ HWB.out (R2.out.ext (uu3)) (I2.out.ext (uu3)) HSP.out.lev).mono ?_
    rintro e w4 ⟨rfl, u4⟩
    have uu4 : Ext wq w4 := uu3.trans u4
    clear c3 d3 e3 f3 g3
    have c4 := ((b1).ext uu4).cell 0 (by simp)
    have d4 := ((b2).ext uu4).cell 0 (by simp)
    have e4 := ((b2).ext uu4).cell 1 (by simp)
    have f4 := ((b2).ext uu4).cell 2 (by simp)
    have g4 := ((b2).ext uu4).cell 3 (by simp)
    go_wp2_with fail
    refine (l1In_b true B (-1) ((s.length : Int) - 1) _ HSU.out).mono ?_
    rintro e ws5 ⟨rfl, hws⟩
    rw [hws]
    clear hws ws5
    go_wp2_with fail
    refine (uCount_c _ _ _ T s t _ (R1.out.ext (uu4)) (R2.out.ext (uu4)) (R3.out.ext (uu4)) HGP.out HSP.out HRI.out).mono ?_
    rw [HUC.out]
    rintro e w5 ⟨rfl, u5⟩
    have uu5 : Ext wq w5 := uu4.trans u5
    clear c4 d4 e4 f4 g4
    have c5 := ((b1).ext uu5).cell 0 (by simp)
    have d5 := ((b2).ext uu5).cell 0 (by simp)
    have e5 := ((b2).ext uu5).cell 1 (by simp)
    have f5 := ((b2).ext uu5).cell 2 (by simp)
    have g5 := ((b2).ext uu5).cell 3 (by simp)
    go_wp2
    go_ret
    exact ⟨ret_bool (by have hx := HB.out; first | exact hx.symm | (rw [hx]; simp; omega)), u0.trans (uu5)⟩
  case neg =>
    have HB := Lib.hid (allB_not (par := T.par) (s := s) (t := t) (fun h => hu (by rw [← HUC.out]; exact h.2.2.2.2.2.2)))
    go_enter Try.func49, Try.ntmps49
    go_wp2_with fail
    obtain ⟨wq, hwq⟩ : ∃ wq, wq = (w.alloc (.cells #[y1] 33)).alloc (.cells #[.int .i64 A, x1, x2, .int .i64 B] 56) := ⟨_, rfl⟩
    rw [← hwq] at u0 b1 b2 R1 R2 R3 I1 I2 ⊢
    clear hwq
    have c0 := ((b1)).cell 0 (by simp)
    have d0 := ((b2)).cell 0 (by simp)
    have e0 := ((b2)).cell 1 (by simp)
    have f0 := ((b2)).cell 2 (by simp)
    have g0 := ((b2)).cell 3 (by simp)
    refine (gGood_b true _ T _ HGB.out (R1.out.ext (Ext.refl wq))).mono ?_
    rintro e w1 ⟨rfl, u1⟩
    have uu1 : Ext wq w1 := u1
    clear c0 d0 e0 f0 g0
    have c1 := ((b1).ext uu1).cell 0 (by simp)
    have d1 := ((b2).ext uu1).cell 0 (by simp)
    have e1 := ((b2).ext uu1).cell 1 (by simp)
    have f1 := ((b2).ext uu1).cell 2 (by simp)
    have g1 := ((b2).ext uu1).cell 3 (by simp)
    go_wp2_with fail
    refine (sGood_b true _ s _ HSB.out (R2.out.ext (uu1)) HWV.out).mono ?_
    rintro e w2 ⟨rfl, u2⟩
    have uu2 : Ext wq w2 := uu1.trans u2
    clear c1 d1 e1 f1 g1
    have c2 := ((b1).ext uu2).cell 0 (by simp)
    have d2 := ((b2).ext uu2).cell 0 (by simp)
    have e2 := ((b2).ext uu2).cell 1 (by simp)
    have f2 := ((b2).ext uu2).cell 2 (by simp)
    have g2 := ((b2).ext uu2).cell 3 (by simp)
    go_wp2_with fail
    refine (gLevel_c _ T A _ (R1.out.ext (uu2)) HGP.out).mono ?_
    rintro e w3 ⟨z, rfl, iz, u3⟩
    have uu3 : Ext wq w3 := uu2.trans u3
    clear c2 d2 e2 f2 g2
    have c3 := ((b1).ext uu3).cell 0 (by simp)
    have d3 := ((b2).ext uu3).cell 0 (by simp)
    have e3 := ((b2).ext uu3).cell 1 (by simp)
    have f3 := ((b2).ext uu3).cell 2 (by simp)
    have g3 := ((b2).ext uu3).cell 3 (by simp)
    obtain ⟨az, cz, rfl, _, _, _⟩ := iz
    obtain ⟨L, hL⟩ : ∃ L, (levL T.par A).length = L := ⟨_, rfl⟩
    rw [hL]
    have HL := Lib.hid hL; clear hL
    have hq : ((L : Int) == 0) = false := by have := HLV.out; rw [HL.out] at this; simp; omega
    go_wp2_with fail
    refine (l1Rising_b true _ t.vars s.length _ _ HRB.out rfl (I1.out.ext (uu3))).mono ?_
    rintro e ws4 ⟨rfl, hws⟩
    rw [hws]
    clear hws ws4
    go_wp2_with fail
    refine (uWhere_b true _ _ s t.cond _ HWB.out (R2.out.ext (uu3)) (I2.out.ext (uu3)) HSP.out.lev).mono ?_
    rintro e w4 ⟨rfl, u4⟩
    have uu4 : Ext wq w4 := uu3.trans u4
    clear c3 d3 e3 f3 g3
    have c4 := ((b1).ext uu4).cell 0 (by simp)
    have d4 := ((b2).ext uu4).cell 0 (by simp)
    have e4 := ((b2).ext uu4).cell 1 (by simp)
    have f4 := ((b2).ext uu4).cell 2 (by simp)
    have g4 := ((b2).ext uu4).cell 3 (by simp)
    go_wp2_with fail
    refine (l1In_b true B (-1) ((s.length : Int) - 1) _ HSU.out).mono ?_
    rintro e ws5 ⟨rfl, hws⟩
    rw [hws]
    clear hws ws5
    go_wp2_with fail
    refine (uCount_c _ _ _ T s t _ (R1.out.ext (uu4)) (R2.out.ext (uu4)) (R3.out.ext (uu4)) HGP.out HSP.out HRI.out).mono ?_
    rw [HUC.out]
    rintro e w5 ⟨rfl, u5⟩
    have uu5 : Ext wq w5 := uu4.trans u5
    clear c4 d4 e4 f4 g4
    have c5 := ((b1).ext uu5).cell 0 (by simp)
    have d5 := ((b2).ext uu5).cell 0 (by simp)
    have e5 := ((b2).ext uu5).cell 1 (by simp)
    have f5 := ((b2).ext uu5).cell 2 (by simp)
    have g5 := ((b2).ext uu5).cell 3 (by simp)
    go_wp2
    go_ret
    exact ⟨ret_bool (by have hx := HB.out; first | exact hx.symm | (rw [hx]; simp; omega)), u0.trans (uu5)⟩
set_option maxHeartbeats 3200000 in
theorem isTable_b (b : Bool) (v1 v2 v3 : Value) (T : Ge) (s : List Vr) (t : Ta) (w : World) (hb : tabB T.par s t = b) (h1 : GeR w v1 T) (h2 : Vrs w v2 s) (h3 : TaR w v3 t) (hg : GeoP T.par) (hs : SchP s) :
    Calls Try.prog 62 #[v1, v2, v3] w fun e w' => e = .returned (.bool b) ∧ Ext w w' := by
  subst hb
  have HGP := Lib.hid hg; clear hg
  have HSP := Lib.hid hs; clear hs
  have R1 := Lib.hid h1
  have R2 := Lib.hid h2; clear h2
  have R3 := Lib.hid h3
  obtain ⟨y1, rfl, i1⟩ := h1
  clear i1
  obtain ⟨x1, x2, rfl, i1, i2⟩ := h3
  have I1 := Lib.hid i1; clear i1
  have I2 := Lib.hid i2; clear i2
  obtain ⟨sa, sc, ev, sl⟩ : ∃ sa sc, v2 = .slice sa s.length sc ∧ s.length ≤ 9223372036854775807 := by
    obtain ⟨sa, sc, e, l1, l2, _⟩ := R2.out; exact ⟨sa, sc, e, by omega⟩
  subst ev
  obtain ⟨A, hA⟩ : ∃ A, t.level = A := ⟨_, rfl⟩
  obtain ⟨B, hB⟩ : ∃ B, t.sum = B := ⟨_, rfl⟩
  rw [hA, hB] at R3
  rw [hA, hB]
  have HAB := Lib.hid (And.intro hA hB); clear hA hB
  have u0 := ((Ext.refl w).alloc (.cells #[y1] 33)).alloc (.cells #[.int .i64 A, x1, x2, .int .i64 B] 56)
  have b1 := (Box.new w 33 #[y1] rfl).alloc (.cells #[.int .i64 A, x1, x2, .int .i64 B] 56)
  have b2 := Box.new (w.alloc (.cells #[y1] 33)) 56 #[.int .i64 A, x1, x2, .int .i64 B] (b := w.heap.size + 1) (by simp)
  have R1 := Lib.hid (R1.out.ext u0)
  have R2 := Lib.hid (R2.out.ext u0)
  have R3 := Lib.hid (R3.out.ext u0)
  have I1 := Lib.hid (I1.out.ext u0)
  have I2 := Lib.hid (I2.out.ext u0)
  by_cases hr : Rising (s.length : Int) t.vars
  case neg =>
    have HRB := Lib.hid (risingB_false hr)
    have HB := Lib.hid (tabB_not (par := T.par) (s := s) (t := t) (fun h => hr h.1))
    clear hr
    go_enter Try.func62, Try.ntmps62
    go_wp2_with fail
    obtain ⟨wq, hwq⟩ : ∃ wq, wq = (w.alloc (.cells #[y1] 33)).alloc (.cells #[.int .i64 A, x1, x2, .int .i64 B] 56) := ⟨_, rfl⟩
    rw [← hwq] at u0 b1 b2 R1 R2 R3 I1 I2 ⊢
    clear hwq
    have c0 := ((b1)).cell 0 (by simp)
    have d0 := ((b2)).cell 0 (by simp)
    have e0 := ((b2)).cell 1 (by simp)
    have f0 := ((b2)).cell 2 (by simp)
    have g0 := ((b2)).cell 3 (by simp)
    refine (areVars_b false _ _ s t.vars _ HRB.out (R2.out.ext (Ext.refl wq)) (I1.out.ext (Ext.refl wq))).mono ?_
    rintro e ws1 ⟨rfl, hws⟩
    rw [hws]
    clear hws ws1
    go_wp2
    go_ret
    exact ⟨ret_bool (by have hx := HB.out; first | exact hx.symm | (rw [hx]; simp; omega)), u0.trans (Ext.refl wq)⟩
  have HRB := Lib.hid (risingB_true.2 hr)
  have HRI := Lib.hid hr; clear hr
  by_cases hwh : WhereP s t.cond
  case neg =>
    have HWB := Lib.hid (whereB_not hwh)
    have HB := Lib.hid (tabB_not (par := T.par) (s := s) (t := t) (fun h => hwh h.2.1))
    clear hwh
    go_enter Try.func62, Try.ntmps62
    go_wp2_with fail
    obtain ⟨wq, hwq⟩ : ∃ wq, wq = (w.alloc (.cells #[y1] 33)).alloc (.cells #[.int .i64 A, x1, x2, .int .i64 B] 56) := ⟨_, rfl⟩
    rw [← hwq] at u0 b1 b2 R1 R2 R3 I1 I2 ⊢
    clear hwq
    have c0 := ((b1)).cell 0 (by simp)
    have d0 := ((b2)).cell 0 (by simp)
    have e0 := ((b2)).cell 1 (by simp)
    have f0 := ((b2)).cell 2 (by simp)
    have g0 := ((b2)).cell 3 (by simp)
    refine (areVars_b true _ _ s t.vars _ HRB.out (R2.out.ext (Ext.refl wq)) (I1.out.ext (Ext.refl wq))).mono ?_
    rintro e ws1 ⟨rfl, hws⟩
    rw [hws]
    clear hws ws1
    go_wp2_with fail
    refine (isWhere_b false _ _ s t.cond _ HWB.out (R2.out.ext (Ext.refl wq)) (I2.out.ext (Ext.refl wq)) HSP.out.lev).mono ?_
    rintro e w1 ⟨rfl, u1⟩
    have uu1 : Ext wq w1 := u1
    clear c0 d0 e0 f0 g0
    have c1 := ((b1).ext uu1).cell 0 (by simp)
    have d1 := ((b2).ext uu1).cell 0 (by simp)
    have e1 := ((b2).ext uu1).cell 1 (by simp)
    have f1 := ((b2).ext uu1).cell 2 (by simp)
    have g1 := ((b2).ext uu1).cell 3 (by simp)
    go_wp2
    go_ret
    exact ⟨ret_bool (by have hx := HB.out; first | exact hx.symm | (rw [hx]; simp; omega)), u0.trans (uu1)⟩
  have HWB := Lib.hid (whereB_true.2 hwh)
  have HWH := Lib.hid hwh; clear hwh
  by_cases hs1 : B < -1
  case pos =>
    have HB := Lib.hid (tabB_not (par := T.par) (s := s) (t := t) (fun h => by have := h.2.2.1.1; rw [HAB.out.2] at this; omega))
    go_enter Try.func62, Try.ntmps62
    go_wp2_with fail
    obtain ⟨wq, hwq⟩ : ∃ wq, wq = (w.alloc (.cells #[y1] 33)).alloc (.cells #[.int .i64 A, x1, x2, .int .i64 B] 56) := ⟨_, rfl⟩
    rw [← hwq] at u0 b1 b2 R1 R2 R3 I1 I2 ⊢
    clear hwq
    have c0 := ((b1)).cell 0 (by simp)
    have d0 := ((b2)).cell 0 (by simp)
    have e0 := ((b2)).cell 1 (by simp)
    have f0 := ((b2)).cell 2 (by simp)
    have g0 := ((b2)).cell 3 (by simp)
    refine (areVars_b true _ _ s t.vars _ HRB.out (R2.out.ext (Ext.refl wq)) (I1.out.ext (Ext.refl wq))).mono ?_
    rintro e ws1 ⟨rfl, hws⟩
    rw [hws]
    clear hws ws1
    go_wp2_with fail
    refine (isWhere_b true _ _ s t.cond _ HWB.out (R2.out.ext (Ext.refl wq)) (I2.out.ext (Ext.refl wq)) HSP.out.lev).mono ?_
    rintro e w1 ⟨rfl, u1⟩
    have uu1 : Ext wq w1 := u1
    clear c0 d0 e0 f0 g0
    have c1 := ((b1).ext uu1).cell 0 (by simp)
    have d1 := ((b2).ext uu1).cell 0 (by simp)
    have e1 := ((b2).ext uu1).cell 1 (by simp)
    have f1 := ((b2).ext uu1).cell 2 (by simp)
    have g1 := ((b2).ext uu1).cell 3 (by simp)
    go_wp2
    go_ret
    exact ⟨ret_bool (by have hx := HB.out; first | exact hx.symm | (rw [hx]; simp; omega)), u0.trans (uu1)⟩
  by_cases hs2 : (s.length : Int) ≤ B
  case pos =>
    have HB := Lib.hid (tabB_not (par := T.par) (s := s) (t := t) (fun h => by have := h.2.2.1.2; rw [HAB.out.2] at this; omega))
    go_enter Try.func62, Try.ntmps62
    go_wp2_with fail
    obtain ⟨wq, hwq⟩ : ∃ wq, wq = (w.alloc (.cells #[y1] 33)).alloc (.cells #[.int .i64 A, x1, x2, .int .i64 B] 56) := ⟨_, rfl⟩
    rw [← hwq] at u0 b1 b2 R1 R2 R3 I1 I2 ⊢
    clear hwq
    have c0 := ((b1)).cell 0 (by simp)
    have d0 := ((b2)).cell 0 (by simp)
    have e0 := ((b2)).cell 1 (by simp)
    have f0 := ((b2)).cell 2 (by simp)
    have g0 := ((b2)).cell 3 (by simp)
    refine (areVars_b true _ _ s t.vars _ HRB.out (R2.out.ext (Ext.refl wq)) (I1.out.ext (Ext.refl wq))).mono ?_
    rintro e ws1 ⟨rfl, hws⟩
    rw [hws]
    clear hws ws1
    go_wp2_with fail
    refine (isWhere_b true _ _ s t.cond _ HWB.out (R2.out.ext (Ext.refl wq)) (I2.out.ext (Ext.refl wq)) HSP.out.lev).mono ?_
    rintro e w1 ⟨rfl, u1⟩
    have uu1 : Ext wq w1 := u1
    clear c0 d0 e0 f0 g0
    have c1 := ((b1).ext uu1).cell 0 (by simp)
    have d1 := ((b2).ext uu1).cell 0 (by simp)
    have e1 := ((b2).ext uu1).cell 1 (by simp)
    have f1 := ((b2).ext uu1).cell 2 (by simp)
    have g1 := ((b2).ext uu1).cell 3 (by simp)
    go_wp2
    go_ret
    exact ⟨ret_bool (by have hx := HB.out; first | exact hx.symm | (rw [hx]; simp; omega)), u0.trans (uu1)⟩
  obtain ⟨U, hU⟩ : ∃ U, uCnt T.par s t = U := ⟨_, rfl⟩
  have HUC := Lib.hid hU; clear hU
  have HPO := Lib.hid (uCnt_pos HGP.out HSP.out HRI.out)
  rw [HUC.out] at HPO
  by_cases hu0 : 0 < U
  case neg =>
    have HB := Lib.hid (tabB_not (par := T.par) (s := s) (t := t) (fun h => hu0 (HPO.out.2 h.2.2.2.1)))
    go_enter Try.func62, Try.ntmps62
    go_wp2_with fail
    obtain ⟨wq, hwq⟩ : ∃ wq, wq = (w.alloc (.cells #[y1] 33)).alloc (.cells #[.int .i64 A, x1, x2, .int .i64 B] 56) := ⟨_, rfl⟩
    rw [← hwq] at u0 b1 b2 R1 R2 R3 I1 I2 ⊢
    clear hwq
    have c0 := ((b1)).cell 0 (by simp)
    have d0 := ((b2)).cell 0 (by simp)
    have e0 := ((b2)).cell 1 (by simp)
    have f0 := ((b2)).cell 2 (by simp)
    have g0 := ((b2)).cell 3 (by simp)
    refine (areVars_b true _ _ s t.vars _ HRB.out (R2.out.ext (Ext.refl wq)) (I1.out.ext (Ext.refl wq))).mono ?_
    rintro e ws1 ⟨rfl, hws⟩
    rw [hws]
    clear hws ws1
    go_wp2_with fail
    refine (isWhere_b true _ _ s t.cond _ HWB.out (R2.out.ext (Ext.refl wq)) (I2.out.ext (Ext.refl wq)) HSP.out.lev).mono ?_
    rintro e w1 ⟨rfl, u1⟩
    have uu1 : Ext wq w1 := u1
    clear c0 d0 e0 f0 g0
    have c1 := ((b1).ext uu1).cell 0 (by simp)
    have d1 := ((b2).ext uu1).cell 0 (by simp)
    have e1 := ((b2).ext uu1).cell 1 (by simp)
    have f1 := ((b2).ext uu1).cell 2 (by simp)
    have g1 := ((b2).ext uu1).cell 3 (by simp)
    go_wp2_with fail
    refine (cellCount_c _ _ _ T s t _ (R1.out.ext (uu1)) (R2.out.ext (uu1)) (R3.out.ext (uu1)) HGP.out HSP.out HRI.out).mono ?_
    rw [HUC.out]
    rintro e w2 ⟨rfl, u2⟩
    have uu2 : Ext wq w2 := uu1.trans u2
    clear c1 d1 e1 f1 g1
    have c2 := ((b1).ext uu2).cell 0 (by simp)
    have d2 := ((b2).ext uu2).cell 0 (by simp)
    have e2 := ((b2).ext uu2).cell 1 (by simp)
    have f2 := ((b2).ext uu2).cell 2 (by simp)
    have g2 := ((b2).ext uu2).cell 3 (by simp)
    go_wp2
    go_ret
    exact ⟨ret_bool (by have hx := HB.out; first | exact hx.symm | (rw [hx]; simp; omega)), u0.trans (uu2)⟩
  by_cases hu : U ≤ 600
  case pos =>
    have HB := Lib.hid (tabB_true.2 ⟨HRI.out, HWH.out, by rw [HAB.out.2]; exact ⟨by omega, by omega⟩, HPO.out.1 hu0, by rw [HUC.out]; exact hu⟩)
    go_enter Try.func62, Try.ntmps62
    go_wp2_with fail
    obtain ⟨wq, hwq⟩ : ∃ wq, wq = (w.alloc (.cells #[y1] 33)).alloc (.cells #[.int .i64 A, x1, x2, .int .i64 B] 56) := ⟨_, rfl⟩
    rw [← hwq] at u0 b1 b2 R1 R2 R3 I1 I2 ⊢
    clear hwq
    have c0 := ((b1)).cell 0 (by simp)
    have d0 := ((b2)).cell 0 (by simp)
    have e0 := ((b2)).cell 1 (by simp)
    have f0 := ((b2)).cell 2 (by simp)
    have g0 := ((b2)).cell 3 (by simp)
    refine (areVars_b true _ _ s t.vars _ HRB.out (R2.out.ext (Ext.refl wq)) (I1.out.ext (Ext.refl wq))).mono ?_
    rintro e ws1 ⟨rfl, hws⟩
    rw [hws]
    clear hws ws1
    go_wp2_with fail
    refine (isWhere_b true _ _ s t.cond _ HWB.out (R2.out.ext (Ext.refl wq)) (I2.out.ext (Ext.refl wq)) HSP.out.lev).mono ?_
    rintro e w1 ⟨rfl, u1⟩
    have uu1 : Ext wq w1 := u1
    clear c0 d0 e0 f0 g0
    have c1 := ((b1).ext uu1).cell 0 (by simp)
    have d1 := ((b2).ext uu1).cell 0 (by simp)
    have e1 := ((b2).ext uu1).cell 1 (by simp)
    have f1 := ((b2).ext uu1).cell 2 (by simp)
    have g1 := ((b2).ext uu1).cell 3 (by simp)
    go_wp2_with fail
    refine (cellCount_c _ _ _ T s t _ (R1.out.ext (uu1)) (R2.out.ext (uu1)) (R3.out.ext (uu1)) HGP.out HSP.out HRI.out).mono ?_
    rw [HUC.out]
    rintro e w2 ⟨rfl, u2⟩
    have uu2 : Ext wq w2 := uu1.trans u2
    clear c1 d1 e1 f1 g1
    have c2 := ((b1).ext uu2).cell 0 (by simp)
    have d2 := ((b2).ext uu2).cell 0 (by simp)
    have e2 := ((b2).ext uu2).cell 1 (by simp)
    have f2 := ((b2).ext uu2).cell 2 (by simp)
    have g2 := ((b2).ext uu2).cell 3 (by simp)
    go_wp2
    go_ret
    exact ⟨ret_bool (by have hx := HB.out; first | exact hx.symm | (rw [hx]; simp; omega)), u0.trans (uu2)⟩
  case neg =>
    have HB := Lib.hid (tabB_not (par := T.par) (s := s) (t := t) (fun h => hu (by rw [← HUC.out]; exact h.2.2.2.2)))
    go_enter Try.func62, Try.ntmps62
    go_wp2_with fail
    obtain ⟨wq, hwq⟩ : ∃ wq, wq = (w.alloc (.cells #[y1] 33)).alloc (.cells #[.int .i64 A, x1, x2, .int .i64 B] 56) := ⟨_, rfl⟩
    rw [← hwq] at u0 b1 b2 R1 R2 R3 I1 I2 ⊢
    clear hwq
    have c0 := ((b1)).cell 0 (by simp)
    have d0 := ((b2)).cell 0 (by simp)
    have e0 := ((b2)).cell 1 (by simp)
    have f0 := ((b2)).cell 2 (by simp)
    have g0 := ((b2)).cell 3 (by simp)
    refine (areVars_b true _ _ s t.vars _ HRB.out (R2.out.ext (Ext.refl wq)) (I1.out.ext (Ext.refl wq))).mono ?_
    rintro e ws1 ⟨rfl, hws⟩
    rw [hws]
    clear hws ws1
    go_wp2_with fail
    refine (isWhere_b true _ _ s t.cond _ HWB.out (R2.out.ext (Ext.refl wq)) (I2.out.ext (Ext.refl wq)) HSP.out.lev).mono ?_
    rintro e w1 ⟨rfl, u1⟩
    have uu1 : Ext wq w1 := u1
    clear c0 d0 e0 f0 g0
    have c1 := ((b1).ext uu1).cell 0 (by simp)
    have d1 := ((b2).ext uu1).cell 0 (by simp)
    have e1 := ((b2).ext uu1).cell 1 (by simp)
    have f1 := ((b2).ext uu1).cell 2 (by simp)
    have g1 := ((b2).ext uu1).cell 3 (by simp)
    go_wp2_with fail
    refine (cellCount_c _ _ _ T s t _ (R1.out.ext (uu1)) (R2.out.ext (uu1)) (R3.out.ext (uu1)) HGP.out HSP.out HRI.out).mono ?_
    rw [HUC.out]
    rintro e w2 ⟨rfl, u2⟩
    have uu2 : Ext wq w2 := uu1.trans u2
    clear c1 d1 e1 f1 g1
    have c2 := ((b1).ext uu2).cell 0 (by simp)
    have d2 := ((b2).ext uu2).cell 0 (by simp)
    have e2 := ((b2).ext uu2).cell 1 (by simp)
    have f2 := ((b2).ext uu2).cell 2 (by simp)
    have g2 := ((b2).ext uu2).cell 3 (by simp)
    go_wp2
    go_ret
    exact ⟨ret_bool (by have hx := HB.out; first | exact hx.symm | (rw [hx]; simp; omega)), u0.trans (uu2)⟩
end Go.Proofs.Ytolmmhdeebgglaa
