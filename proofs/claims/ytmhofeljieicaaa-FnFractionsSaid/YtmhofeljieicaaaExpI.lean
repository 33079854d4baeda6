/- PowFrac, isChance; ExpBounds, the program's. -/
import Derived.Test.YtmhofeljieicaaaFracOps
import Derived.Test.YtmhofeljieicaaaExpP
import Derived.BigRegion
namespace Go.Proofs.Ytmhofeljieicaaa
open Go.RowKit

theorem eSum_terms {n d : Int} : ∀ (i : Nat) (s : Int × Int), eSum n d i = some s → ∀ j, j ≤ i → fB (tmN n j) (tmD d j) = true
  | 0, s, _, j, hj => by
    have : j = 0 := by omega
    subst this; exact term_zero (n := n) (d := d) |>.2.2
  | i + 1, s, h, j, hj => by
    rw [eSum] at h
    split at h
    · cases h
    · rename_i s' hs
      split at h
      · rename_i h1
        by_cases e : j = i + 1
        · rw [e]; exact h1
        · exact eSum_terms i s' hs j (by omega)
      · cases h
theorem eSum_stop {n d : Int} {i K : Nat} (hi : i ≤ K) (h : fB (tmN n i) (tmD d i) = false) : eSum n d K = none := by
  cases he : eSum n d K with
  | none => rfl
  | some s =>
    have := eSum_terms K s he i hi
    rw [h] at this; cases this

set_option maxHeartbeats 1600000 in
theorem isChance_b (b : Bool) (n d : Int) (w : World) (hb : (goodF n d && (decide (0 ≤ n) && decide (n ≤ d))) = b) :
    Calls Try.prog 31 #[.agg #[.int .i64 n, .int .i64 d]] w fun e w' => e = .returned (.bool b) ∧ Ext w w' := by
  have u0 := (Ext.refl w).alloc (.cells #[.int .i64 n, .int .i64 d] 24)
  have b0 := Box.new w 24 #[.int .i64 n, .int .i64 d] rfl
  cases hg : goodF n d
  · rw [hg, Bool.false_and] at hb
    subst hb
    have HG := Lib.hid hg; clear hg
    go_enter Try.func31, Try.ntmps31
    go_wp2_with fail
    refine (isFrac_b false n d _ HG.out).mono ?_
    rintro e w1 ⟨rfl, u1⟩
    go_wp2
    go_ret
    exact ⟨rfl, u0.trans u1⟩
  rw [hg, Bool.true_and] at hb
  have HG := Lib.hid hg; clear hg
  by_cases h1 : 0 ≤ n
  case neg =>
    have e : b = false := by rw [← hb]; simp [h1]
    subst e; clear hb
    go_enter Try.func31, Try.ntmps31
    go_wp2_with fail
    refine (isFrac_b true n d _ HG.out).mono ?_
    rintro e w1 ⟨rfl, u1⟩
    have b1 := b0.ext u1
    have c0 := b1.cell 0 (by simp)
    have c1 := b1.cell 1 (by simp)
    go_wp2
    go_ret
    exact ⟨rfl, u0.trans u1⟩
  by_cases h2 : n ≤ d
  case neg =>
    have e : b = false := by rw [← hb]; simp [h2]
    subst e; clear hb
    go_enter Try.func31, Try.ntmps31
    go_wp2_with fail
    refine (isFrac_b true n d _ HG.out).mono ?_
    rintro e w1 ⟨rfl, u1⟩
    have b1 := b0.ext u1
    have c0 := b1.cell 0 (by simp)
    have c1 := b1.cell 1 (by simp)
    go_wp2
    go_ret
    exact ⟨ret_bool (by simp [h2]), u0.trans u1⟩
  have e : b = true := by rw [← hb]; simp [h1, h2]
  subst e; clear hb
  go_enter Try.func31, Try.ntmps31
  go_wp2_with fail
  refine (isFrac_b true n d _ HG.out).mono ?_
  rintro e w1 ⟨rfl, u1⟩
  have b1 := b0.ext u1
  have c0 := b1.cell 0 (by simp)
  have c1 := b1.cell 1 (by simp)
  go_wp2
  go_ret
  exact ⟨rfl, u0.trans u1⟩
set_option maxHeartbeats 3200000 in
theorem PowFrac_c (a b : Int) (k : Nat) (w : World) (ha : goodF a b = true) (hk : k ≤ 60) (hp : ∀ j, j < k → fB (pwI a j) (pwI b j) = true) :
    Calls Try.prog 32 #[.agg #[.int .i64 a, .int .i64 b], .int .i64 k] w fun e w' => e = .returned (.tuple #[.agg #[.int .i64 (fVN (pwI a k) (pwI b k)), .int .i64 (fVD (pwI a k) (pwI b k))], .bool (fB (pwI a k) (pwI b k))]) ∧ Ext w w' := by
  have u0 := ((Ext.refl w).alloc (.cells #[.int .i64 a, .int .i64 b] 24)).alloc (.cells #[.int .i64 0, .int .i64 0] 24)
  have b2 := (Box.new w 24 #[.int .i64 a, .int .i64 b] rfl).alloc (.cells #[.int .i64 0, .int .i64 0] 24)
  have b4 := Box.new (w.alloc (.cells #[.int .i64 a, .int .i64 b] 24)) 24 #[.int .i64 0, .int .i64 0] (b := w.heap.size + 1) (by simp)
  have HP := Lib.hid hp; clear hp
  have hb1 := (goodF_bounds ha).1
  have HA := Lib.hid ha; clear ha
  have hz0 : fB (pwI a 0) (pwI b 0) = true ∧ fVN (pwI a 0) (pwI b 0) = 1 ∧ fVD (pwI a 0) (pwI b 0) = 1 := by show fB 1 1 = true ∧ fVN 1 1 = 1 ∧ fVD 1 1 = 1; decide
  have k0 : ¬ ((k : Int) < 0) := by omega
  have k6 : ¬ ((60 : Int) < (k : Int)) := by omega
  go_enter Try.func32, Try.ntmps32
  go_wp2_with fail
  refine (isFrac_b true a b _ HA.out).mono ?_
  rintro e w1 ⟨rfl, u1⟩
  have b6 := Box.new w1 24 #[.int .i64 1, .int .i64 1] rfl
  have ub := (Ext.refl w1).alloc (.cells #[.int .i64 1, .int .i64 1] 24)
  have s1 := u1.size
  simp at s1
  have x2 := b2.ext u1
  have x4 := b4.ext u1
  go_wp2
  go_loopw [23] (fun i wr => ∃ j : Nat, j ≤ k ∧ i = .int .i64 j ∧ fB (pwI a j) (pwI b j) = true ∧ Box wr w1.heap.size 24 #[.int .i64 (fVN (pwI a j) (pwI b j)), .int .i64 (fVD (pwI a j) (pwI b j))] ∧ Ext w1 wr) (fun i _ => k - (intOf i).toNat)
  case atStart => exact ⟨0, Nat.zero_le _, rfl, hz0.1, by rw [hz0.2.1, hz0.2.2]; exact b6, ub⟩
  case round =>
    clear b6 ub
    obtain ⟨j, hj, rfl, hok, hb6, hx⟩ := hrel
    obtain ⟨wo, rfl⟩ : ∃ wo : World, wo = wr := ⟨_, rfl⟩
    have z2 := x2.ext hx
    have z4 := x4.ext hx
    have HOK := Lib.hid hok; clear hok
    have hpv := pow_val hb1 HOK.out
    have HG := Lib.hid hpv.1
    have hQ := (goodF_bounds hpv.1).1
    have HNX := Lib.hid (pow_next (a := a) hb1 hQ hpv.2)
    clear hpv
    by_cases hlt : j < k
    · have HPV : Hid (∀ z : Bool, fB (pwI a (j + 1)) (pwI b (j + 1)) = z → z = false → k = j + 1) := Lib.hid (fun z h1 h2 => by
        by_cases e : k = j + 1
        · exact e
        · have := HP.out (j + 1) (by omega)
          rw [h2] at h1; rw [h1] at this; cases this)
      obtain ⟨P, hP⟩ : ∃ P, fVN (pwI a j) (pwI b j) = P := ⟨_, rfl⟩
      obtain ⟨Q, hQ'⟩ : ∃ Q, fVD (pwI a j) (pwI b j) = Q := ⟨_, rfl⟩
      rw [hP, hQ'] at HG HNX hb6
      rw [hQ'] at hQ
      clear hP hQ'
      have e0 := hb6.cell 0 (by simp)
      have e1 := hb6.cell 1 (by simp)
      have g0 := z2.cell 0 (by simp)
      have g1 := z2.cell 1 (by simp)
      go_wp2_with fail
      refine (MulFrac_y P Q a b _ HG.out HA.out).mono ?_
      rw [HNX.out.1, HNX.out.2.1, HNX.out.2.2]
      rintro e w3 ⟨rfl, u3⟩
      have s3 := u3.size
      have shx := hx.size
      have ua := u3.alloc (.cells #[.int .i64 (fVN (pwI a (j + 1)) (pwI b (j + 1))), .int .i64 (fVD (pwI a (j + 1)) (pwI b (j + 1)))] 24)
      cases hz : fB (pwI a (j + 1)) (pwI b (j + 1))
      · have hkj := HPV.out false hz rfl
        have HV : Hid (fVN (pwI a k) (pwI b k) = 0 ∧ fVD (pwI a k) (pwI b k) = 0 ∧ fB (pwI a k) (pwI b k) = false) := Lib.hid (by rw [hkj]; exact ⟨by unfold fVN; rw [hz]; rfl, by unfold fVD; rw [hz]; rfl, hz⟩)
        clear hz hkj
        have y4 := z4.ext ua
        have f0 := y4.free 0
        have f1 := y4.free 1
        have c40 := y4.cell 0 (by simp)
        have c41 := y4.cell 1 (by simp)
        have hux := (u0.trans (u1.trans hx)).trans ua
        go_wp2
        refine bodyPost_ret (v := .tuple #[.agg #[.int .i64 0, .int .i64 0], .bool false]) (by simp [results, Try.results32, go_sem, c40, c41]) rfl ⟨by rw [HV.out.1, HV.out.2.1, HV.out.2.2], ?_⟩
        exact (hux.setCell _ (by simp)).setCell _ (by simp)
      · have HZ := Lib.hid hz; clear hz
        have y6 := hb6.ext ua
        have f0 := y6.free 0
        have f1 := y6.free 1
        have e0' := y6.cell 0 (by simp)
        have e1' := y6.cell 1 (by simp)
        have hy := ((y6.set 0 (.int .i64 (fVN (pwI a (j + 1)) (pwI b (j + 1))))).set 1 (.int .i64 (fVD (pwI a (j + 1)) (pwI b (j + 1)))))
        have hxx := ((hx.trans ua).setCell (a := ⟨w1.heap.size, 0, none⟩) (.int .i64 (fVN (pwI a (j + 1)) (pwI b (j + 1)))) (by simp)).setCell (a := ⟨w1.heap.size, 1, none⟩) (.int .i64 (fVD (pwI a (j + 1)) (pwI b (j + 1)))) (by simp)
        have HYX := Lib.hid (And.intro hy hxx); clear hy hxx
        clear e0 e1 g0 g1
        go_wp2
        go_roundw
        case rel => exact ⟨j + 1, by omega, by go_num, HZ.out, HYX.out.1, HYX.out.2⟩
        case measure => simp [intOf]; omega
    · have hjk : j = k := by omega
      subst hjk
      have e0 := hb6.cell 0 (by simp)
      have e1 := hb6.cell 1 (by simp)
      have f0 := z4.free 0
      have f1 := z4.free 1
      have c40 := z4.cell 0 (by simp)
      have c41 := z4.cell 1 (by simp)
      have hux := u0.trans (u1.trans hx)
      go_wp2
      refine bodyPost_ret (v := .tuple #[.agg #[.int .i64 (fVN (pwI a j) (pwI b j)), .int .i64 (fVD (pwI a j) (pwI b j))], .bool true]) (by simp [results, Try.results32, go_sem, c40, c41]) rfl ⟨by rw [HOK.out], ?_⟩
      exact (hux.setCell _ (by simp)).setCell _ (by simp)
end Go.Proofs.Ytmhofeljieicaaa
