/- Whether two records can be swapped: the spec's swCan, the program's canSwap. -/
import Derived.Test.YtkkoidoinbiikaaInp
import Derived.Deep.RegionHeld3
namespace Go.Proofs.Ytkkoidoinbiikaa
open Go.RowKit

def canB (s : List Vr) (a b : Pe) (vars : List Int) : Bool := decide (a.area ≠ b.area) && decide (keyL s a.vals vars = keyL s b.vals vars)
theorem canB_false1 {s : List Vr} {a b : Pe} {vars : List Int} (h : a.area = b.area) : canB s a b vars = false := by simp [canB, h]
theorem canB_false2 {s : List Vr} {a b : Pe} {vars : List Int} (h : ¬ keyL s a.vals vars = keyL s b.vals vars) : canB s a b vars = false := by simp [canB, h]
theorem canB_true {s : List Vr} {a b : Pe} {vars : List Int} (h : ¬ a.area = b.area) (h2 : keyL s a.vals vars = keyL s b.vals vars) : canB s a b vars = true := by simp [canB, h, h2]

set_option maxRecDepth 100000 in
set_option maxHeartbeats 1600000 in
theorem swCan_b (b : Bool) (v1 v2 v3 : Value) (s : List Vr) (l : List Pe) (vars : List Int) (i k : Nat) (w : World) (hb : canB s (peAt l i) (peAt l k) vars = b) (h1 : Vrs w v1 s) (h2 : Pes w v2 l) (h3 : Ints w v3 vars)
    (hi : i < l.length) (hk : k < l.length) (hki : KeyOk s (peAt l i).vals vars) (hkk : KeyOk s (peAt l k).vals vars) :
    Calls Try.prog 77 #[v1, v2, v3, .int .i64 i, .int .i64 k] w fun e w' => e = .returned (.bool b) ∧ Ext w w' := by
  subst hb
  have H1 := Lib.hid h1; clear h1
  have H3 := Lib.hid h3; clear h3
  obtain ⟨a2, c2, rfl, e1, e2, g2⟩ := h2
  obtain ⟨b1, o1, ar1, cr1, rfl, hc0, hc1, hc2, p1, p2, p3⟩ := g2.at_ hi
  obtain ⟨b2, o2, ar2, cr2, e', hd0, hd1, hd2, q1, q2, q3⟩ := g2.at_ hk
  simp only [Option.some.injEq, Addr.mk.injEq, and_true] at e'
  obtain ⟨rfl, rfl⟩ := e'
  clear g2 hc1 hd1
  have HI1 : Hid (Ints w (.slice ar1 (peAt l i).vals.length cr1) (peAt l i).vals) := Lib.hid ⟨ar1, cr1, rfl, p1, p2, p3⟩
  have HI2 : Hid (Ints w (.slice ar2 (peAt l k).vals.length cr2) (peAt l k).vals) := Lib.hid ⟨ar2, cr2, rfl, q1, q2, q3⟩
  clear p3 q3
  have HKI := Lib.hid hki; clear hki
  have HKK := Lib.hid hkk; clear hkk
  have HC : Hid (canB s (peAt l i) (peAt l k) vars = (decide ((peAt l i).area ≠ (peAt l k).area) && decide (keyL s (peAt l i).vals vars = keyL s (peAt l k).vals vars))) := Lib.hid rfl
  obtain ⟨A, hA⟩ : ∃ A, (peAt l i).area = A := ⟨_, rfl⟩
  obtain ⟨A2, hA2⟩ : ∃ A, (peAt l k).area = A := ⟨_, rfl⟩
  obtain ⟨X, hX⟩ : ∃ X, (peAt l i).vals = X := ⟨_, rfl⟩
  obtain ⟨Y, hY⟩ : ∃ Y, (peAt l k).vals = Y := ⟨_, rfl⟩
  rw [hA] at hc0 HC
  rw [hA2] at hd0 HC
  rw [hX] at hc2 HI1 p1 HKI HC
  rw [hY] at hd2 HI2 q1 HKK HC
  clear hA hA2 hX hY
  obtain ⟨C, hC⟩ : ∃ C, canB s (peAt l i) (peAt l k) vars = C := ⟨_, rfl⟩
  rw [hC] at HC ⊢
  clear hC
  obtain ⟨K1, hK1⟩ : ∃ K, keyL s X vars = K := ⟨_, rfl⟩
  obtain ⟨K2, hK2⟩ : ∃ K, keyL s Y vars = K := ⟨_, rfl⟩
  rw [hK1, hK2] at HC
  have HK1 := Lib.hid hK1; clear hK1
  have HK2 := Lib.hid hK2; clear hK2
  have hi0 : (0 : Int) ≤ (i : Int) := by omega
  have hi1 : (i : Int) < (l.length : Int) := by omega
  have hk0 : (0 : Int) ≤ (k : Int) := by omega
  have hk1 : (k : Int) < (l.length : Int) := by omega
  by_cases hA : A = A2
  · have hne : (A != A2) = false := by simp [hA]
    have HB : Hid (C = false) := Lib.hid (by rw [HC.out]; simp [hA])
    clear hA
    go_enter Try.func77, Try.ntmps77
    go_wp2_with fail
    go_quiet (fail)
    go_wp2
    go_ret
    exact ⟨ret_bool HB.out.symm, (Ext.refl w).drewN _⟩
  have hne : (A != A2) = true := by simp [hA]
  have HB : Hid (C = decide (K1 = K2)) := Lib.hid (by rw [HC.out]; simp [hA])
  clear hA
  have hsz1 : X.length = X.length := rfl
  clear hsz1
  obtain ⟨n1, hn1⟩ : ∃ n, X.length = n := ⟨_, rfl⟩
  obtain ⟨n2, hn2⟩ : ∃ n, Y.length = n := ⟨_, rfl⟩
  rw [hn1] at hc2 HI1 p1
  rw [hn2] at hd2 HI2 q1
  clear hn1 hn2
  by_cases hK : K1 = K2
  · have hq : (K1 == K2) = true := by simp [hK]
    have HD : Hid (C = true) := Lib.hid (by rw [HB.out]; simp [hK])
    clear hK
    go_enter Try.func77, Try.ntmps77
    go_wp2_with fail
    go_region_held3 (fun x => x.cell? ⟨b1, o1 + i * 3, none⟩ = some (.int .i64 A) ∧ x.cell? ⟨b1, o1 + k * 3, none⟩ = some (.int .i64 A2) ∧ x.cell? ⟨b1, o1 + i * 3 + 2, none⟩ = some (.slice ar1 n1 cr1) ∧ x.cell? ⟨b1, o1 + k * 3 + 2, none⟩ = some (.slice ar2 n2 cr2))
      (first | exact ⟨Ext.cell u2 (Ext.cell u1 hc0), Ext.cell u2 (Ext.cell u1 hd0), Ext.cell u2 (Ext.cell u1 hc2), Ext.cell u2 (Ext.cell u1 hd2)⟩ | exact ⟨Ext.cell u1 hc0, Ext.cell u1 hd0, Ext.cell u1 hc2, Ext.cell u1 hd2⟩ | go_keep)
      ((first
        | (go_at_call 65; with_reducible refine (swKey_c _ _ _ s Y vars _ (H1.out.ext ((Ext.refl w).drew.trans u1)) (HI2.out.ext ((Ext.refl w).drew.trans u1)) (H3.out.ext ((Ext.refl w).drew.trans u1)) HKK.out).mono ?_; rw [HK2.out]; rintro e w2 ⟨rfl, u2⟩)
        | (go_at_call 65; with_reducible refine (swKey_c _ _ _ s X vars _ (H1.out.ext (Ext.refl w).drew) (HI1.out.ext (Ext.refl w).drew) (H3.out.ext (Ext.refl w).drew) HKI.out).mono ?_; rw [HK1.out]; rintro e w1 ⟨rfl, u1⟩)))
    go_wp2
    go_ret
    exact ⟨ret_bool HD.out.symm, ((Ext.refl w).drew.trans u1).trans u2⟩
  · have hq : (K1 == K2) = false := by simp [hK]
    have HD : Hid (C = false) := Lib.hid (by rw [HB.out]; simp [hK])
    clear hK
    go_enter Try.func77, Try.ntmps77
    go_wp2_with fail
    go_region_held3 (fun x => x.cell? ⟨b1, o1 + i * 3, none⟩ = some (.int .i64 A) ∧ x.cell? ⟨b1, o1 + k * 3, none⟩ = some (.int .i64 A2) ∧ x.cell? ⟨b1, o1 + i * 3 + 2, none⟩ = some (.slice ar1 n1 cr1) ∧ x.cell? ⟨b1, o1 + k * 3 + 2, none⟩ = some (.slice ar2 n2 cr2))
      (first | exact ⟨Ext.cell u2 (Ext.cell u1 hc0), Ext.cell u2 (Ext.cell u1 hd0), Ext.cell u2 (Ext.cell u1 hc2), Ext.cell u2 (Ext.cell u1 hd2)⟩ | exact ⟨Ext.cell u1 hc0, Ext.cell u1 hd0, Ext.cell u1 hc2, Ext.cell u1 hd2⟩ | go_keep)
      ((first
        | (go_at_call 65; with_reducible refine (swKey_c _ _ _ s Y vars _ (H1.out.ext ((Ext.refl w).drew.trans u1)) (HI2.out.ext ((Ext.refl w).drew.trans u1)) (H3.out.ext ((Ext.refl w).drew.trans u1)) HKK.out).mono ?_; rw [HK2.out]; rintro e w2 ⟨rfl, u2⟩)
        | (go_at_call 65; with_reducible refine (swKey_c _ _ _ s X vars _ (H1.out.ext (Ext.refl w).drew) (HI1.out.ext (Ext.refl w).drew) (H3.out.ext (Ext.refl w).drew) HKI.out).mono ?_; rw [HK1.out]; rintro e w1 ⟨rfl, u1⟩)))
    go_wp2
    go_ret
    exact ⟨ret_bool HD.out.symm, ((Ext.refl w).drew.trans u1).trans u2⟩
set_option maxRecDepth 100000 in
set_option maxHeartbeats 1600000 in
theorem canSwap_b (b : Bool) (v1 v2 v3 v4 : Value) (s : List Vr) (p q : Pe) (vars : List Int) (w : World) (hb : canB s p q vars = b) (h1 : Vrs w v1 s) (h2 : PeR w v2 p) (h3 : PeR w v3 q) (h4 : Ints w v4 vars)
    (hki : KeyOk s p.vals vars) (hkk : KeyOk s q.vals vars) :
    Calls Try.prog 80 #[v1, v2, v3, v4] w fun e w' => e = .returned (.bool b) ∧ Ext w w' := by
  subst hb
  have H1 := Lib.hid h1; clear h1
  have H2 := Lib.hid h2
  have H3 := Lib.hid h3
  have H4 := Lib.hid h4; clear h4
  obtain ⟨ar1, cr1, rfl, _⟩ := h2.form
  obtain ⟨ar2, cr2, rfl, _⟩ := h3.form
  clear h2 h3
  have HKI := Lib.hid hki; clear hki
  have HKK := Lib.hid hkk; clear hkk
  have HC : Hid (canB s p q vars = (decide (p.area ≠ q.area) && decide (keyL s p.vals vars = keyL s q.vals vars))) := Lib.hid rfl
  obtain ⟨C, hC⟩ : ∃ C, canB s p q vars = C := ⟨_, rfl⟩
  rw [hC] at HC ⊢
  clear hC
  obtain ⟨K1, hK1⟩ : ∃ K, keyL s p.vals vars = K := ⟨_, rfl⟩
  obtain ⟨K2, hK2⟩ : ∃ K, keyL s q.vals vars = K := ⟨_, rfl⟩
  rw [hK1, hK2] at HC
  have HK1 := Lib.hid hK1; clear hK1
  have HK2 := Lib.hid hK2; clear hK2
  obtain ⟨A, hA⟩ : ∃ A, p.area = A := ⟨_, rfl⟩
  obtain ⟨A2, hA2⟩ : ∃ A, q.area = A := ⟨_, rfl⟩
  obtain ⟨B, hB⟩ : ∃ A, p.house = A := ⟨_, rfl⟩
  obtain ⟨B2, hB2⟩ : ∃ A, q.house = A := ⟨_, rfl⟩
  obtain ⟨n1, hn1⟩ : ∃ n, p.vals.length = n := ⟨_, rfl⟩
  obtain ⟨n2, hn2⟩ : ∃ n, q.vals.length = n := ⟨_, rfl⟩
  rw [hA, hA2] at HC
  rw [hA, hB, hn1] at H2
  rw [hA2, hB2, hn2] at H3
  rw [hA, hB, hn1, hA2, hB2, hn2]
  clear hA hB hn1 hA2 hB2 hn2
  have u0 := ((Ext.refl w).alloc (.cells #[.int .i64 A, .int .i64 B, .slice ar1 n1 cr1] 50)).alloc (.cells #[.int .i64 A2, .int .i64 B2, .slice ar2 n2 cr2] 50)
  have bx1 := (Box.new w 50 #[.int .i64 A, .int .i64 B, .slice ar1 n1 cr1] rfl).alloc (.cells #[.int .i64 A2, .int .i64 B2, .slice ar2 n2 cr2] 50)
  have bx2 := Box.new (w.alloc (.cells #[.int .i64 A, .int .i64 B, .slice ar1 n1 cr1] 50)) 50 #[.int .i64 A2, .int .i64 B2, .slice ar2 n2 cr2] (b := w.heap.size + 1) (by simp)
  have c0 := bx1.cell 0 (by simp)
  have c1 := bx1.cell 1 (by simp)
  have c2 := bx1.cell 2 (by simp)
  have d0 := bx2.cell 0 (by simp)
  have d1 := bx2.cell 1 (by simp)
  have d2 := bx2.cell 2 (by simp)
  by_cases hA : A = A2
  · have hne : (A != A2) = false := by simp [hA]
    have HB : Hid (C = false) := Lib.hid (by rw [HC.out]; simp [hA])
    clear hA
    go_enter Try.func80, Try.ntmps80
    go_wp2_with fail
    go_quiet (fail)
    go_wp2
    go_ret
    exact ⟨ret_bool HB.out.symm, u0.drewN _⟩
  have hne : (A != A2) = true := by simp [hA]
  have HB : Hid (C = decide (K1 = K2)) := Lib.hid (by rw [HC.out]; simp [hA])
  clear hA
  by_cases hK : K1 = K2
  · have hq : (K1 == K2) = true := by simp [hK]
    have HD : Hid (C = true) := Lib.hid (by rw [HB.out]; simp [hK])
    clear hK
    go_enter Try.func80, Try.ntmps80
    go_wp2_with fail
    go_region_held3 (fun x => x.cell? ⟨w.heap.size, 0, none⟩ = some (.int .i64 A) ∧ x.cell? ⟨w.heap.size, 1, none⟩ = some (.int .i64 B) ∧ x.cell? ⟨w.heap.size, 2, none⟩ = some (.slice ar1 n1 cr1) ∧ x.cell? ⟨w.heap.size + 1, 0, none⟩ = some (.int .i64 A2) ∧ x.cell? ⟨w.heap.size + 1, 1, none⟩ = some (.int .i64 B2) ∧ x.cell? ⟨w.heap.size + 1, 2, none⟩ = some (.slice ar2 n2 cr2))
      (first | exact ⟨Ext.cell u2 (Ext.cell u1 c0), Ext.cell u2 (Ext.cell u1 c1), Ext.cell u2 (Ext.cell u1 c2), Ext.cell u2 (Ext.cell u1 d0), Ext.cell u2 (Ext.cell u1 d1), Ext.cell u2 (Ext.cell u1 d2)⟩ | exact ⟨Ext.cell u1 c0, Ext.cell u1 c1, Ext.cell u1 c2, Ext.cell u1 d0, Ext.cell u1 d1, Ext.cell u1 d2⟩ | go_keep)
      ((first
        | (go_at_call 69; with_reducible refine (keyOf_c _ _ _ s q vars _ (H1.out.ext (u0.drew.trans u1)) (H3.out.ext (u0.drew.trans u1)) (H4.out.ext (u0.drew.trans u1)) HKK.out).mono ?_; rw [HK2.out]; rintro e w2 ⟨rfl, u2⟩)
        | (go_at_call 69; with_reducible refine (keyOf_c _ _ _ s p vars _ (H1.out.ext u0.drew) (H2.out.ext u0.drew) (H4.out.ext u0.drew) HKI.out).mono ?_; rw [HK1.out]; rintro e w1 ⟨rfl, u1⟩)))
    go_wp2
    go_ret
    exact ⟨ret_bool HD.out.symm, (u0.drew.trans u1).trans u2⟩
  · have hq : (K1 == K2) = false := by simp [hK]
    have HD : Hid (C = false) := Lib.hid (by rw [HB.out]; simp [hK])
    clear hK
    go_enter Try.func80, Try.ntmps80
    go_wp2_with fail
    go_region_held3 (fun x => x.cell? ⟨w.heap.size, 0, none⟩ = some (.int .i64 A) ∧ x.cell? ⟨w.heap.size, 1, none⟩ = some (.int .i64 B) ∧ x.cell? ⟨w.heap.size, 2, none⟩ = some (.slice ar1 n1 cr1) ∧ x.cell? ⟨w.heap.size + 1, 0, none⟩ = some (.int .i64 A2) ∧ x.cell? ⟨w.heap.size + 1, 1, none⟩ = some (.int .i64 B2) ∧ x.cell? ⟨w.heap.size + 1, 2, none⟩ = some (.slice ar2 n2 cr2))
      (first | exact ⟨Ext.cell u2 (Ext.cell u1 c0), Ext.cell u2 (Ext.cell u1 c1), Ext.cell u2 (Ext.cell u1 c2), Ext.cell u2 (Ext.cell u1 d0), Ext.cell u2 (Ext.cell u1 d1), Ext.cell u2 (Ext.cell u1 d2)⟩ | exact ⟨Ext.cell u1 c0, Ext.cell u1 c1, Ext.cell u1 c2, Ext.cell u1 d0, Ext.cell u1 d1, Ext.cell u1 d2⟩ | go_keep)
      ((first
        | (go_at_call 69; with_reducible refine (keyOf_c _ _ _ s q vars _ (H1.out.ext (u0.drew.trans u1)) (H3.out.ext (u0.drew.trans u1)) (H4.out.ext (u0.drew.trans u1)) HKK.out).mono ?_; rw [HK2.out]; rintro e w2 ⟨rfl, u2⟩)
        | (go_at_call 69; with_reducible refine (keyOf_c _ _ _ s p vars _ (H1.out.ext u0.drew) (H2.out.ext u0.drew) (H4.out.ext u0.drew) HKI.out).mono ?_; rw [HK1.out]; rintro e w1 ⟨rfl, u1⟩)))
    go_wp2
    go_ret
    exact ⟨ret_bool HD.out.symm, (u0.drew.trans u1).trans u2⟩
end Go.Proofs.Ytkkoidoinbiikaa

