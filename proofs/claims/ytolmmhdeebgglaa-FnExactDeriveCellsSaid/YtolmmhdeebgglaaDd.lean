/- Whether numbers are the cells of a table: the spec's nCells. -/
import Derived.Test.YtolmmhdeebgglaaDc
namespace Go.Proofs.Ytolmmhdeebgglaa
open Go.RowKit

open Classical in
noncomputable def smallB (n : Int) (cells : List Int) : Bool := decide ((cells.length : Int) = n) && allIn (-1000000) 1000000 cells
theorem smallB_true {n : Int} {cells : List Int} : smallB n cells = true ↔ SmallC n cells := by
  unfold smallB SmallC
  rw [Bool.and_eq_true, decide_eq_true_eq]
  constructor
  · rintro ⟨h1, h2⟩
    refine ⟨h1, fun k hk => ?_⟩
    have := List.all_eq_true.1 h2 _ (ix_mem hk)
    simpa using this
  · rintro ⟨h1, h2⟩
    exact ⟨h1, all_true_of_ix (fun j hj => by simpa using h2 j hj)⟩

set_option maxHeartbeats 3200000 in
theorem nCells_b (b : Bool) (v1 v2 v3 v4 : Value) (T : Ge) (s : List Vr) (t : Ta) (xs : List Int) (w : World) (hb : (allB T.par s t && smallB (uCnt T.par s t) xs) = b) (h1 : GeR w v1 T) (h2 : Vrs w v2 s) (h3 : TaR w v3 t) (h4 : Ints w v4 xs) (hw : WfV s) :
    Calls Try.prog 50 #[v1, v2, v3, v4] w fun e w' => e = .returned (.bool b) ∧ Ext w w' := by
  have HWF := Lib.hid hw; clear hw
  have R4 := Lib.hid h4
  obtain ⟨a4, c4, rfl, p4, q4, g4⟩ := h4
  clear g4
  have R1 := Lib.hid h1
  have R2 := Lib.hid h2; clear h2
  have R3 := Lib.hid h3
  obtain ⟨y1, rfl, i1⟩ := h1
  clear i1
  obtain ⟨xa1, xm1, xa2, xm2, rfl, hx1, hx2⟩ := h3.form
  clear h3
  obtain ⟨A, hA⟩ : ∃ A, t.level = A := ⟨_, rfl⟩
  obtain ⟨B, hB⟩ : ∃ B, t.sum = B := ⟨_, rfl⟩
  obtain ⟨VL, hVL⟩ : ∃ B, t.vars.length = B := ⟨_, rfl⟩
  obtain ⟨CL, hCL⟩ : ∃ B, t.cond.length = B := ⟨_, rfl⟩
  rw [hA, hB, hVL, hCL] at R3
  rw [hVL] at hx1
  rw [hCL] at hx2
  rw [hA, hB, hVL, hCL]
  have HLA := Lib.hid hA
  have HVL := Lib.hid hVL
  clear hB hVL hCL
  have u0 := ((Ext.refl w).alloc (.cells #[y1] 33)).alloc (.cells #[.int .i64 A, .slice xa1 VL xm1, .slice xa2 CL xm2, .int .i64 B] 56)
  have b1 := (Box.new w 33 #[y1] rfl).alloc (.cells #[.int .i64 A, .slice xa1 VL xm1, .slice xa2 CL xm2, .int .i64 B] 56)
  have b2 := Box.new (w.alloc (.cells #[y1] 33)) 56 #[.int .i64 A, .slice xa1 VL xm1, .slice xa2 CL xm2, .int .i64 B] (b := w.heap.size + 1) (by simp)
  have R1 := Lib.hid (R1.out.ext u0)
  have R2 := Lib.hid (R2.out.ext u0)
  have R3 := Lib.hid (R3.out.ext u0)
  have c1 := b1.cell 0 (by simp)
  have d0 := b2.cell 0 (by simp)
  have d1 := b2.cell 1 (by simp)
  have d2 := b2.cell 2 (by simp)
  have d3 := b2.cell 3 (by simp)
  have R4 := Lib.hid (R4.out.ext u0)
  clear hA
  rcases ha : allB T.par s t with _ | _
  · have hb2 : b = false := by rw [← hb, ha]; rfl
    subst hb2
    have HA2 := Lib.hid ha
    clear hb ha
    go_enter Try.func50, Try.ntmps50
    go_wp2_with fail
    refine (uGood_b false _ _ _ T s t _ HA2.out R1.out R2.out R3.out HWF.out).mono ?_
    rintro e w3 ⟨rfl, u3⟩
    go_wp2
    go_ret
    exact ⟨rfl, u0.trans u3⟩
  · have HA2 := Lib.hid ha
    have HAP := Lib.hid (allB_true.1 ha)
    rw [ha, Bool.true_and] at hb
    have HB := Lib.hid hb
    clear ha hb
    obtain ⟨U, hU⟩ : ∃ U, uCnt T.par s t = U := ⟨_, rfl⟩
    rw [hU] at HB
    have HU := Lib.hid hU; clear hU
    obtain ⟨X, hX⟩ : ∃ X, xs.length = X := ⟨_, rfl⟩
    rw [hX] at R4 p4 ⊢
    have HX := Lib.hid hX; clear hX
    by_cases he : (X : Int) = U
    · have hq : ((X : Int) == U) = true := by simp [he]
      have HB2 : Hid (allIn (-1000000) 1000000 xs = b) := Lib.hid (by
        have h := HB.out
        unfold smallB at h
        rw [HX.out] at h
        simpa [he] using h)
      clear he
      go_enter Try.func50, Try.ntmps50
      go_wp2_with fail
      refine (uGood_b true _ _ _ T s t _ HA2.out R1.out R2.out R3.out HWF.out).mono ?_
      rintro e w3 ⟨rfl, u3⟩
      have e1 := Ext.cell u3 c1
      have f0 := Ext.cell u3 d0
      have f1 := Ext.cell u3 d1
      have f2 := Ext.cell u3 d2
      have f3 := Ext.cell u3 d3
      go_wp2_with fail
      refine (uCount_c _ _ _ T s t _ (R1.out.ext u3) (R2.out.ext u3) (R3.out.ext u3) HAP.out.1 HAP.out.2.1 HAP.out.2.2.1).mono ?_
      rw [HU.out]
      rintro e w4 ⟨rfl, u4⟩
      go_wp2_with fail
      refine (l1All_b b _ xs (-1000000) 1000000 _ HB2.out (R4.out.ext (u3.trans u4))).mono ?_
      rintro e w5 ⟨rfl, hw5⟩
      rw [hw5]
      clear hw5
      go_wp2
      go_ret
      exact ⟨rfl, u0.trans (u3.trans u4)⟩
    · have hq : ((X : Int) == U) = false := by simp [he]
      have hb2 : b = false := by
        have h := HB.out
        unfold smallB at h
        rw [HX.out] at h
        rw [← h]
        simp [he]
      subst hb2
      clear he
      go_enter Try.func50, Try.ntmps50
      go_wp2_with fail
      refine (uGood_b true _ _ _ T s t _ HA2.out R1.out R2.out R3.out HWF.out).mono ?_
      rintro e w3 ⟨rfl, u3⟩
      have e1 := Ext.cell u3 c1
      have f0 := Ext.cell u3 d0
      have f1 := Ext.cell u3 d1
      have f2 := Ext.cell u3 d2
      have f3 := Ext.cell u3 d3
      go_wp2_with fail
      refine (uCount_c _ _ _ T s t _ (R1.out.ext u3) (R2.out.ext u3) (R3.out.ext u3) HAP.out.1 HAP.out.2.1 HAP.out.2.2.1).mono ?_
      rw [HU.out]
      rintro e w4 ⟨rfl, u4⟩
      go_wp2
      go_ret
      exact ⟨rfl, u0.trans (u3.trans u4)⟩

theorem areSmall_s (b : Bool) (v : Value) (xs : List Int) (n : Int) (w : World) (hb : smallB n xs = b) (h : Ints w v xs) :
    Calls Try.prog 63 #[v, .int .i64 n] w fun e w' => e = .returned (.bool b) ∧ w' = w :=
  areSmall_b b v xs n w (by rw [← hb]; unfold smallB; congr 1) h
end Go.Proofs.Ytolmmhdeebgglaa
