/- ExpBounds: the law. -/
import Derived.Test.YtmhofeljieicaaaExpV
import Derived.Test.YtmhofeljieicaaaExpW
namespace Go.Proofs.Ytmhofeljieicaaa
open Go.RowKit

theorem toFrac_c (n d : Int) (w : World) :
    Calls Try.prog 16 #[.agg #[.int .i64 n, .int .i64 d]] w fun e w' => e = .returned (.agg #[.int .i64 n, .int .i64 d]) ∧ Ext w w' := by
  go_enter Try.func16, Try.ntmps16
  go_wp2
  refine bodyPost_ret (v := .agg #[.int .i64 n, .int .i64 d]) (by simp [results, Try.results16, go_sem]) rfl ⟨rfl, ?_⟩
  exact (((Ext.refl w).alloc (.cells #[.int .i64 n, .int .i64 d] 33)).alloc (.cells #[.int .i64 n, .int .i64 d] 24)).alloc (.cells #[.int .i64 n, .int .i64 d] 24)
theorem eqFrac_b (b : Bool) (n1 d1 n2 d2 : Int) (w : World) (hb : decide (n1 = n2 ∧ d1 = d2) = b) :
    Calls Try.prog 18 #[.agg #[.int .i64 n1, .int .i64 d1], .agg #[.int .i64 n2, .int .i64 d2]] w fun e w' => e = .returned (.bool b) ∧ Ext w w' := by
  subst hb
  have u0 := ((Ext.refl w).alloc (.cells #[.int .i64 n1, .int .i64 d1] 24)).alloc (.cells #[.int .i64 n2, .int .i64 d2] 24)
  by_cases h1 : n1 = n2
  · subst h1
    by_cases h2 : d1 = d2
    · subst h2
      go_enter Try.func18, Try.ntmps18
      go_wp2
      go_ret
      exact ⟨by simp, u0⟩
    · have hd : (d1 != d2) = true := by simp [h2]
      go_enter Try.func18, Try.ntmps18
      go_wp2
      go_ret
      exact ⟨by simp [h2], u0⟩
  · have hd : (n1 != n2) = true := by simp [h1]
    go_enter Try.func18, Try.ntmps18
    go_wp2
    go_ret
    exact ⟨by simp [h1], u0⟩
set_option maxHeartbeats 1600000 in
theorem lawExpBounds_c (n d k : Int) (w : World) :
    Calls Try.prog 4 #[.agg #[.int .i64 n, .int .i64 d], .int .i64 k] w fun e w' => e = .returned (.bool true) ∧ Ext w w' := by
  have u0 := (Ext.refl w).alloc (.cells #[.int .i64 n, .int .i64 d] 33)
  have b0 := Box.new w 33 #[.int .i64 n, .int .i64 d] rfl
  obtain ⟨A1, hA1⟩ : ∃ A, A = (xbR n d k).1.1 := ⟨_, rfl⟩
  obtain ⟨A2, hA2⟩ : ∃ A, A = (xbR n d k).1.2 := ⟨_, rfl⟩
  obtain ⟨B1, hB1⟩ : ∃ A, A = (xbR n d k).2.1 := ⟨_, rfl⟩
  obtain ⟨B2, hB2⟩ : ∃ A, A = (xbR n d k).2.2 := ⟨_, rfl⟩
  obtain ⟨C, hC⟩ : ∃ A, A = xbB n d k := ⟨_, rfl⟩
  have HA1 := Lib.hid hA1; clear hA1
  have HA2 := Lib.hid hA2; clear hA2
  have HB1 := Lib.hid hB1; clear hB1
  have HB2 := Lib.hid hB2; clear hB2
  have HC := Lib.hid hC; clear hC
  have hq : (C != C) = false := by simp
  go_enter Try.func4, Try.ntmps4
  go_wp2_with fail
  refine (toFrac_c n d _).mono ?_
  rintro e w1 ⟨rfl, u1⟩
  have v1 := u0.trans u1
  have b1 := b0.ext u1
  go_wp2_with fail
  refine (specExp_c n d k _).mono ?_
  rw [← HA1.out, ← HA2.out, ← HB1.out, ← HB2.out, ← HC.out]
  rintro e w3 ⟨rfl, u3⟩
  have f3 := (Box.new w3 24 #[.int .i64 A1, .int .i64 A2] rfl).alloc (.cells #[.int .i64 B1, .int .i64 B2] 24)
  have g3 := Box.new (w3.alloc (.cells #[.int .i64 A1, .int .i64 A2] 24)) 24 #[.int .i64 B1, .int .i64 B2] (b := w3.heap.size + 1) (by simp)
  have u3' := ((Ext.refl w3).alloc (.cells #[.int .i64 A1, .int .i64 A2] 24)).alloc (.cells #[.int .i64 B1, .int .i64 B2] 24)
  have v3 := (v1.trans u3).trans u3'
  have b3 := (b1.ext u3).ext u3'
  have c30 := b3.cell 0 (by simp)
  have c31 := b3.cell 1 (by simp)
  go_wp2_with fail
  refine (toFrac_c n d _).mono ?_
  rintro e w4 ⟨rfl, u4⟩
  have v4 := v3.trans u4
  go_wp2_with fail
  refine (implExp_c n d k _).mono ?_
  rw [← HA1.out, ← HA2.out, ← HB1.out, ← HB2.out, ← HC.out]
  rintro e w5 ⟨rfl, u5⟩
  have f5 := (Box.new w5 24 #[.int .i64 A1, .int .i64 A2] rfl).alloc (.cells #[.int .i64 B1, .int .i64 B2] 24)
  have g5 := Box.new (w5.alloc (.cells #[.int .i64 A1, .int .i64 A2] 24)) 24 #[.int .i64 B1, .int .i64 B2] (b := w5.heap.size + 1) (by simp)
  have u5' := ((Ext.refl w5).alloc (.cells #[.int .i64 A1, .int .i64 A2] 24)).alloc (.cells #[.int .i64 B1, .int .i64 B2] 24)
  have f35 := ((f3.ext u4).ext u5).ext u5'
  have g35 := ((g3.ext u4).ext u5).ext u5'
  have p0 := f5.cell 0 (by simp)
  have p1 := f5.cell 1 (by simp)
  have q0 := f35.cell 0 (by simp)
  have q1 := f35.cell 1 (by simp)
  go_wp2_with fail
  refine (eqFrac_b true A1 A2 A1 A2 _ (by simp)).mono ?_
  rintro e w6 ⟨rfl, u6⟩
  have r0 := (g5.ext u6).cell 0 (by simp)
  have r1 := (g5.ext u6).cell 1 (by simp)
  have s0 := (g35.ext u6).cell 0 (by simp)
  have s1 := (g35.ext u6).cell 1 (by simp)
  have v6 := (v4.trans u5).trans (u5'.trans u6)
  go_wp2_with fail
  refine (eqFrac_b true B1 B2 B1 B2 _ (by simp)).mono ?_
  rintro e w7 ⟨rfl, u7⟩
  go_wp2
  go_ret
  exact ⟨rfl, v6.trans u7⟩
end Go.Proofs.Ytmhofeljieicaaa
