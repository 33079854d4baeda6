/- IsExposedShare, the spec's. -/
import Derived.Test.YtmfbbkackdmbpaaDom
namespace Go.Proofs.Ytmfbbkackdmbpaa
open Go.RowKit

set_option maxHeartbeats 1600000 in
theorem specIsExposedShare_c (v : Value) (xs : List Int) (p : Int) (w : World) (h : Ints w v xs) :
    Calls Try.prog 5 #[v, .int .i64 p] w fun e w' => e = .returned (.tuple #[.bool (esV xs p), .bool (esB xs p)]) ∧ Ext w w' := by
  have H := Lib.hid h; clear h
  have HF : Hid (¬ EsP xs p → esV xs p = false ∧ esB xs p = false) := Lib.hid (fun h => by simp [esV, esB, h])
  have H0 : Hid (EsP xs p → xs = [] → esV xs p = false ∧ esB xs p = true) := Lib.hid (fun h e => by subst e; simp [esV, esB, h])
  have HT : Hid (EsP xs p → xs ≠ [] → esV xs p = decide (100 * ((fallI xs).drop 2).sum < p * ix (fallI xs) 0) ∧ esB xs p = true) := Lib.hid (fun h e => by simp [esV, esB, h, e])
  obtain ⟨V, hV⟩ : ∃ V, esV xs p = V := ⟨_, rfl⟩
  obtain ⟨B, hB⟩ : ∃ V, esB xs p = V := ⟨_, rfl⟩
  rw [hV, hB] at HF HT H0 ⊢
  clear hV hB
  cases ha : amB xs
  · obtain ⟨q1, q2⟩ := HF.out (fun h => by have := amB_true.2 h.1; rw [ha] at this; cases this)
    subst q1 q2
    have HA := Lib.hid ha; clear ha HF HT H0
    go_enter Try.func5, Try.ntmps5
    go_wp2_with fail
    refine (qAmounts_b false _ xs _ HA.out H.out).mono ?_
    rintro e w' ⟨rfl, rfl⟩
    go_wp2
    go_ret2
    exact ⟨rfl, Ext.refl _⟩
  have HA := Lib.hid ha
  have HAP := Lib.hid (amB_true.1 ha)
  clear ha
  cases hp1 : (decide (0 ≤ p) && decide (p ≤ 100))
  · obtain ⟨q1, q2⟩ := HF.out (fun h => by have := h.2; simp [this.1, this.2] at hp1)
    subst q1 q2
    have HP := Lib.hid hp1; clear hp1 HF HT H0
    go_enter Try.func5, Try.ntmps5
    go_wp2_with fail
    refine (qAmounts_b true _ xs _ HA.out H.out).mono ?_
    rintro e w' ⟨rfl, rfl⟩
    go_wp2_with fail
    refine (l1In_b false p 0 100 _ HP.out).mono ?_
    rintro e w' ⟨rfl, rfl⟩
    go_wp2
    go_ret2
    exact ⟨rfl, Ext.refl _⟩
  have HP := Lib.hid hp1
  have hp2 : 0 ≤ p ∧ p ≤ 100 := by simpa using hp1
  clear hp1
  have hl40 := HAP.out.1
  have hff := fallI_len xs
  by_cases hne : xs = []
  · obtain ⟨q1, q2⟩ := H0.out ⟨HAP.out, hp2⟩ hne
    subst q1 q2
    have hz : ((xs.length : Int) == 0) = true := by rw [hne]; rfl
    clear HF HT H0 hne
    go_enter Try.func5, Try.ntmps5
    go_wp2_with fail
    refine (qAmounts_b true _ xs _ HA.out H.out).mono ?_
    rintro e w' ⟨rfl, rfl⟩
    go_wp2_with fail
    refine (l1In_b true p 0 100 _ HP.out).mono ?_
    rintro e w' ⟨rfl, rfl⟩
    go_wp2_with fail
    refine (qFalling_c _ xs _ H.out (by omega)).mono ?_
    rintro e w1 ⟨v1, rfl, o1, u1⟩
    have oi := o1.ints
    clear o1
    obtain ⟨ao, cap, rfl, c1, c2, g⟩ := oi
    clear g
    rw [hff]
    clear hff c1 c2
    go_wp2
    go_ret2
    exact ⟨rfl, u1⟩
  obtain ⟨q1, q2⟩ := HT.out ⟨HAP.out, hp2⟩ hne
  have hpos : 0 < xs.length := List.length_pos_iff.2 hne
  have hz : ((xs.length : Int) == 0) = false := by simp only [beq_eq_false_iff_ne]; omega
  clear HF H0 HT hne
  have Q1 := Lib.hid q1; have Q2 := Lib.hid q2
  clear q1 q2
  go_enter Try.func5, Try.ntmps5
  go_wp2_with fail
  refine (qAmounts_b true _ xs _ HA.out H.out).mono ?_
  rintro e w' ⟨rfl, rfl⟩
  go_wp2_with fail
  refine (l1In_b true p 0 100 _ HP.out).mono ?_
  rintro e w' ⟨rfl, rfl⟩
  go_wp2_with fail
  refine (qFalling_c _ xs _ H.out (by omega)).mono ?_
  rintro e w1 ⟨v1, rfl, o1, u1⟩
  have oi := o1.ints
  clear o1
  obtain ⟨ao, cap, rfl, c1, c2, g⟩ := oi
  have G := Lib.hid g; clear g
  have HLE := Lib.hid hff
  rw [hff]
  clear hff c1 c2
  go_wp2
  go_loop [7, 25] (fun t i => ∃ k : Nat, k ≤ xs.length ∧ i = .int .i64 k ∧ t = .int .i64 (restTo (fallI xs) k)) (fun _ i => xs.length - (intOf i).toNat)
  case atStart => exact ⟨0, Nat.zero_le _, rfl, by rw [restTo_zero]⟩
  case round =>
    obtain ⟨k, hk, rfl, rfl⟩ := hrel
    have hT := HAP.out.restTo k
    by_cases hlt : k < xs.length
    · obtain ⟨b, o, rfl, hc⟩ := G.out k (by have := HLE.out; omega)
      have hx := HAP.out.ixF hlt
      by_cases hk2 : 2 ≤ k
      · have HT1 := Lib.hid (restTo_in (f := fallI xs) (by have := HLE.out; omega) hk2)
        have hkn' : (1 : Int) < (k : Int) := by omega
        obtain ⟨T, hT'⟩ : ∃ T, restTo (fallI xs) k = T := ⟨_, rfl⟩
        obtain ⟨x, hx'⟩ : ∃ x, ix (fallI xs) k = x := ⟨_, rfl⟩
        rw [hT'] at hT HT1 ⊢
        rw [hx'] at hx HT1 hc
        clear hT' hx' hk2
        have hw2 : IntKind.i64.wrap (T + x) = T + x := IntWalk.i64_in _ (by omega)
        go_wp2
        go_round
        case rel => exact ⟨k + 1, by omega, by go_num, by rw [HT1.out]⟩
        case measure => simp [intOf]; omega
      · have HT1 := Lib.hid (restTo_out (f := fallI xs) (i := k) (by omega))
        have hkn' : ¬ (1 : Int) < (k : Int) := by omega
        clear hk2
        go_wp2
        go_round
        case rel => exact ⟨k + 1, by omega, by go_num, by rw [HT1.out]⟩
        case measure => simp [intOf]; omega
    · have HTA : Hid (restTo (fallI xs) k = ((fallI xs).drop 2).sum) := Lib.hid (by rw [show k = (fallI xs).length by have := HLE.out; omega, restTo_all])
      rw [HTA.out] at hT ⊢
      have hq := Q1.out
      obtain ⟨T, hT'⟩ : ∃ T, ((fallI xs).drop 2).sum = T := ⟨_, rfl⟩
      rw [hT'] at hT hq ⊢
      have hx := HAP.out.ixF hpos
      obtain ⟨b, o, rfl, hc⟩ := G.out 0 (by have := HLE.out; omega)
      rw [Nat.add_zero] at hc
      obtain ⟨x, hx'⟩ : ∃ x, ix (fallI xs) 0 = x := ⟨_, rfl⟩
      rw [hx'] at hx hq hc
      have HQ := Lib.hid hq
      clear hT' hx' hq
      have hpr := prod_bnd hp2 ⟨hx.1, by omega⟩
      have hw1 : IntKind.i64.wrap (p * x) = p * x := IntWalk.i64_in _ (by omega)
      have hw2 : IntKind.i64.wrap (100 * T) = 100 * T := IntWalk.i64_in _ (by omega)
      clear hpr
      go_wp2
      go_ret2
      exact ⟨ret_2bools HQ.out.symm Q2.out.symm, u1⟩
end Go.Proofs.Ytmfbbkackdmbpaa
