/- IsDominated and IsExposedShare, the program's. -/
import Derived.Test.YtmfbbkackdmbpaaExs
import Derived.Test.YtmfbbkackdmbpaaQext
namespace Go.Proofs.Ytmfbbkackdmbpaa
open Go.RowKit

set_option maxHeartbeats 1600000 in
theorem implIsDominated_c (v : Value) (xs : List Int) (n p : Int) (w : World) (h : Ints w v xs) (hn : n ≤ 9223372036854775807) :
    Calls Try.prog 10 #[v, .int .i64 n, .int .i64 p] w fun e w' => e = .returned (.tuple #[.bool (dmV xs n p), .bool (dmB xs n p)]) ∧ Ext w w' := by
  have H := Lib.hid h; clear h
  have HF : Hid (¬ DmP xs n p → dmV xs n p = false ∧ dmB xs n p = false) := Lib.hid (fun h => by simp [dmV, dmB, h])
  have HT : Hid (DmP xs n p → dmV xs n p = decide (p * xs.sum < 100 * ((fallI xs).take n.toNat).sum) ∧ dmB xs n p = true) := Lib.hid (fun h => by simp [dmV, dmB, h])
  obtain ⟨V, hV⟩ : ∃ V, dmV xs n p = V := ⟨_, rfl⟩
  obtain ⟨B, hB⟩ : ∃ V, dmB xs n p = V := ⟨_, rfl⟩
  rw [hV, hB] at HF HT ⊢
  clear hV hB
  cases ha : amB xs
  · obtain ⟨q1, q2⟩ := HF.out (fun h => by have := amB_true.2 h.1; rw [ha] at this; cases this)
    subst q1 q2
    have HA := Lib.hid ha; clear ha HF HT
    go_enter Try.func10, Try.ntmps10
    go_wp2_with fail
    refine (descending_b false _ xs _ HA.out H.out).mono ?_
    rintro e w1 ⟨v1, rfl, _, u1⟩
    go_wp2
    go_ret2
    exact ⟨rfl, u1⟩
  have HA := Lib.hid ha
  have HAP := Lib.hid (amB_true.1 ha)
  clear ha
  by_cases hd : (1 ≤ n ∧ n ≤ 10) ∧ (0 ≤ p ∧ p ≤ 100)
  · obtain ⟨q1, q2⟩ := HT.out ⟨HAP.out, hd.1, hd.2⟩
    obtain ⟨⟨n1, n2⟩, p1, p2⟩ := hd
    obtain ⟨N, rfl⟩ : ∃ N : Nat, n = (N : Int) := ⟨n.toNat, by omega⟩
    rw [Int.toNat_natCast] at q1
    have Q1 := Lib.hid q1; have Q2 := Lib.hid q2
    clear q1 q2 HF HT
    have i1 : ¬ (N : Int) < 1 := by omega
    have i2 : ¬ 10 < (N : Int) := by omega
    have i3 : ¬ p < 0 := by omega
    have i4 : ¬ 100 < p := by omega
    have hff := fallI_len xs
    have hl40 := HAP.out.1
    have hsum := HAP.out.sum
    have hpr := prod_bnd ⟨p1, p2⟩ hsum
    have hw1 : IntKind.i64.wrap (p * xs.sum) = p * xs.sum := IntWalk.i64_in _ (by omega)
    have hT0 := HAP.out.topTo N (fallI xs).length
    rw [topTo_all] at hT0
    have HS1 := Lib.hid (HAP.out.sumOk (ys := fallI xs) (fun x hx => hx) (by omega))
    have HS2 := Lib.hid (HAP.out.sumOk (ys := (fallI xs).take N) (fun x hx => List.mem_of_mem_take hx) (by simp; omega))
    have HFS := Lib.hid (fallI_sum xs)
    go_enter Try.func10, Try.ntmps10
    go_wp2_with fail
    refine (descending_b true _ xs _ HA.out H.out).mono ?_
    rintro e w1 ⟨v1, rfl, o1, u1⟩
    have o2 : Own w.heap.size w1.heap.size w1 v1 (fallI xs) := o1
    have oi := o2.ints
    clear o1 o2
    have OI := Lib.hid oi
    obtain ⟨ao, cap, rfl, c1, c2, g⟩ := oi
    clear g
    have hq := Q1.out
    obtain ⟨T, hT⟩ : ∃ T, ((fallI xs).take N).sum = T := ⟨_, rfl⟩
    rw [hT] at hT0 hq
    have HTT := Lib.hid hT; clear hT
    have HQ := Lib.hid hq; clear hq
    have hw2 : IntKind.i64.wrap (T * 100) = T * 100 := IntWalk.i64_in _ (by omega)
    have HMUL : Hid (decide (p * xs.sum < T * 100) = V) := Lib.hid (by rw [HQ.out, Int.mul_comm T 100])
    rw [hff] at OI c1 ⊢
    have HLF := Lib.hid hff
    clear hff hpr hsum hT0
    have hM : Ints w1 (.slice ao (min (N : Int) (xs.length : Int)).toNat cap) ((fallI xs).take N) := by
      have e1 : (min (N : Int) (xs.length : Int)).toNat = min N xs.length := by omega
      have e2 : (fallI xs).take (min N xs.length) = (fallI xs).take N := by
        rcases Nat.le_total N xs.length with h | h
        · rw [Nat.min_eq_left h]
        · rw [Nat.min_eq_right h, List.take_of_length_le (by rw [fallI_len]; exact Nat.le_refl _), List.take_of_length_le (by rw [fallI_len]; exact h)]
      rw [e1, ← e2]
      exact OI.out.take (by rw [fallI_len]; exact Nat.min_le_right _ _)
    have HM := Lib.hid hM; clear hM
    go_wp2_with fail
    refine (total_c _ ((fallI xs).take N) _ HM.out HS2.out).mono ?_
    rw [HTT.out]
    rintro e w' ⟨rfl, rfl⟩
    go_wp2_with fail
    refine (total_c _ (fallI xs) _ OI.out HS1.out).mono ?_
    rw [HFS.out]
    rintro e w' ⟨rfl, rfl⟩
    go_wp2
    go_ret2
    exact ⟨ret_2bools HMUL.out Q2.out.symm, u1⟩
  · obtain ⟨q1, q2⟩ := HF.out (fun h => hd h.2)
    subst q1 q2
    clear HF HT
    by_cases i1 : n < 1
    · clear hd
      go_enter Try.func10, Try.ntmps10
      go_wp2_with fail
      refine (descending_b true _ xs _ HA.out H.out).mono ?_
      rintro e w1 ⟨v1, rfl, _, u1⟩
      go_wp2
      go_ret2
      exact ⟨rfl, u1⟩
    · by_cases i2 : 10 < n
      · clear hd
        go_enter Try.func10, Try.ntmps10
        go_wp2_with fail
        refine (descending_b true _ xs _ HA.out H.out).mono ?_
        rintro e w1 ⟨v1, rfl, _, u1⟩
        go_wp2
        go_ret2
        exact ⟨rfl, u1⟩
      · by_cases i3 : p < 0
        · clear hd
          go_enter Try.func10, Try.ntmps10
          go_wp2_with fail
          refine (descending_b true _ xs _ HA.out H.out).mono ?_
          rintro e w1 ⟨v1, rfl, _, u1⟩
          go_wp2
          go_ret2
          exact ⟨rfl, u1⟩
        · have i4 : 100 < p := by
            by_cases e : 100 < p
            · exact e
            · exact absurd ⟨⟨by omega, by omega⟩, by omega, by omega⟩ hd
          clear hd
          go_enter Try.func10, Try.ntmps10
          go_wp2_with fail
          refine (descending_b true _ xs _ HA.out H.out).mono ?_
          rintro e w1 ⟨v1, rfl, _, u1⟩
          go_wp2
          go_ret2
          exact ⟨rfl, u1⟩

set_option maxHeartbeats 1600000 in
theorem implIsExposedShare_c (v : Value) (xs : List Int) (p : Int) (w : World) (h : Ints w v xs) :
    Calls Try.prog 7 #[v, .int .i64 p] w fun e w' => e = .returned (.tuple #[.bool (esV xs p), .bool (esB xs p)]) ∧ Ext w w' := by
  have H := Lib.hid h; clear h
  have HF : Hid (¬ EsP xs p → esV xs p = false ∧ esB xs p = false) := Lib.hid (fun h => by simp [esV, esB, h])
  have H0 : Hid (EsP xs p → xs = [] → esV xs p = false ∧ esB xs p = true) := Lib.hid (fun h e => by subst e; simp [esV, esB, h])
  have HT : Hid (EsP xs p → xs ≠ [] → esV xs p = decide (100 * ((fallI xs).drop 2).sum < p * ix (fallI xs) 0) ∧ esB xs p = true) := Lib.hid (fun h e => by simp [esV, esB, h, e])
  obtain ⟨V, hV⟩ : ∃ V, esV xs p = V := ⟨_, rfl⟩
  obtain ⟨B, hB⟩ : ∃ V, esB xs p = V := ⟨_, rfl⟩
  rw [hV, hB] at HF HT H0 ⊢
  clear hV hB
  cases ha : amB xs
  · obtain ⟨q1, q2⟩ := HF.out (fun h => by have := amB_true.2 h.1; rw [ha] at this; cases this)
    subst q1 q2
    have HA := Lib.hid ha; clear ha HF HT H0
    go_enter Try.func7, Try.ntmps7
    go_wp2_with fail
    refine (descending_b false _ xs _ HA.out H.out).mono ?_
    rintro e w1 ⟨v1, rfl, _, u1⟩
    go_wp2
    go_ret2
    exact ⟨rfl, u1⟩
  have HA := Lib.hid ha
  have HAP := Lib.hid (amB_true.1 ha)
  clear ha
  by_cases i3 : p < 0
  · obtain ⟨q1, q2⟩ := HF.out (fun h => by have := h.2; omega)
    subst q1 q2
    clear HF HT H0
    go_enter Try.func7, Try.ntmps7
    go_wp2_with fail
    refine (descending_b true _ xs _ HA.out H.out).mono ?_
    rintro e w1 ⟨v1, rfl, _, u1⟩
    go_wp2
    go_ret2
    exact ⟨rfl, u1⟩
  by_cases i4 : 100 < p
  · obtain ⟨q1, q2⟩ := HF.out (fun h => by have := h.2; omega)
    subst q1 q2
    clear HF HT H0
    go_enter Try.func7, Try.ntmps7
    go_wp2_with fail
    refine (descending_b true _ xs _ HA.out H.out).mono ?_
    rintro e w1 ⟨v1, rfl, _, u1⟩
    go_wp2
    go_ret2
    exact ⟨rfl, u1⟩
  have hp2 : 0 ≤ p ∧ p ≤ 100 := by omega
  have hl40 := HAP.out.1
  have hff := fallI_len xs
  by_cases hne : xs = []
  · obtain ⟨q1, q2⟩ := H0.out ⟨HAP.out, hp2⟩ hne
    subst q1 q2
    have hz : ((xs.length : Int) == 0) = true := by rw [hne]; rfl
    clear HF HT H0 hne
    go_enter Try.func7, Try.ntmps7
    go_wp2_with fail
    refine (descending_b true _ xs _ HA.out H.out).mono ?_
    rintro e w1 ⟨v1, rfl, o1, u1⟩
    have o2 : Own w.heap.size w1.heap.size w1 v1 (fallI xs) := o1
    have oi := o2.ints
    clear o1 o2
    obtain ⟨ao, cap, rfl, c1, c2, g⟩ := oi
    clear g
    rw [hff]
    clear hff c1 c2
    go_wp2
    go_ret2
    exact ⟨rfl, u1⟩
  obtain ⟨q1, q2⟩ := HT.out ⟨HAP.out, hp2⟩ hne
  have hpos : 0 < xs.length := List.length_pos_iff.2 hne
  have hz : ((xs.length : Int) == 0) = false := by simp only [beq_eq_false_iff_ne]; omega
  clear HF H0 HT hne
  have hT0 := HAP.out.restTo (fallI xs).length
  rw [restTo_all] at hT0
  have HS2 := Lib.hid (HAP.out.sumOk (ys := (fallI xs).drop 2) (fun x hx => List.mem_of_mem_drop hx) (by simp; omega))
  have hx := HAP.out.ixF hpos
  obtain ⟨T, hT⟩ : ∃ T, ((fallI xs).drop 2).sum = T := ⟨_, rfl⟩
  obtain ⟨x, hx'⟩ : ∃ x, ix (fallI xs) 0 = x := ⟨_, rfl⟩
  rw [hT] at hT0 q1
  rw [hx'] at hx q1
  have hpr := prod_bnd hp2 ⟨hx.1, by omega⟩
  have hw1 : IntKind.i64.wrap (p * x) = p * x := IntWalk.i64_in _ (by omega)
  have hw2 : IntKind.i64.wrap (T * 100) = T * 100 := IntWalk.i64_in _ (by omega)
  have HMUL : Hid (decide (T * 100 < p * x) = V) := Lib.hid (by rw [q1, Int.mul_comm T 100])
  have HTT := Lib.hid hT
  have HXX := Lib.hid hx'
  have Q2 := Lib.hid q2
  clear q1 q2 hT hx' hpr hT0 hx
  go_enter Try.func7, Try.ntmps7
  go_wp2_with fail
  refine (descending_b true _ xs _ HA.out H.out).mono ?_
  rintro e w1 ⟨v1, rfl, o1, u1⟩
  have o2 : Own w.heap.size w1.heap.size w1 v1 (fallI xs) := o1
  have oi := o2.ints
  clear o1 o2
  have OI := Lib.hid oi
  obtain ⟨ao, cap, rfl, c1, c2, g⟩ := oi
  obtain ⟨b, o, rfl, hc⟩ := g 0 (by rw [hff]; exact hpos)
  rw [Nat.add_zero, HXX.out] at hc
  clear g
  rw [hff] at OI c1 ⊢
  have HLF := Lib.hid hff
  clear hff
  obtain ⟨k, hk⟩ : ∃ k : Nat, k = min 2 xs.length := ⟨_, rfl⟩
  have hmin : min (2 : Int) (xs.length : Int) = (k : Int) := by omega
  have hkl : k ≤ xs.length := by omega
  have hdk : (fallI xs).drop 2 = (fallI xs).drop k := by
    rcases Nat.le_total 2 xs.length with h | h
    · rw [hk, Nat.min_eq_left h]
    · rw [hk, Nat.min_eq_right h, List.drop_of_length_le (by rw [fallI_len]; exact h), List.drop_of_length_le (by rw [fallI_len]; exact Nat.le_refl _)]
  have HDK := Lib.hid hdk
  clear hk hdk
  have t0 : (0 : Int) ≤ (k : Int) := by omega
  have t1 : (k : Int) ≤ (xs.length : Int) := by omega
  have t2 : k ≤ cap := by omega
  by_cases hck : cap = k
  · have hnil : (fallI xs).drop 2 = [] := by rw [HDK.out]; exact List.drop_of_length_le (by rw [fallI_len]; omega)
    have HNIL := Lib.hid hnil; clear hnil
    obtain rfl : k = cap := hck.symm
    have HTOT : Hid (∀ m, Calls Try.prog 15 #[.slice (some ⟨b, o, none⟩) 0 0] (w1.drewN m) fun e w' => e = .returned (.int .i64 T) ∧ w' = w1.drewN m) := Lib.hid (fun m => by
      rw [← HTT.out]
      have hs := HS2.out
      rw [HNIL.out] at hs ⊢
      exact total_c _ [] _ (Ints.none_ (by omega)) hs)
    go_wp2_with fail
    go_quiet ((go_at_call 15; exact Calls.quiet_of_same (HTOT.out _)))
    go_wp2
    go_ret2
    exact ⟨ret_2bools HMUL.out Q2.out.symm, u1.drewN _⟩
  · have HI := Lib.hid (OI.out.drop (k := k) (by rw [fallI_len]; exact hkl))
    have HTOT : Hid (∀ m, Calls Try.prog 15 #[.slice (some ⟨b, o + k, none⟩) (xs.length - k) (cap - k)] (w1.drewN m) fun e w' => e = .returned (.int .i64 T) ∧ w' = w1.drewN m) := Lib.hid (fun m => by
      have hi := HI.out
      rw [← HDK.out, fallI_len] at hi
      rw [← HTT.out]; exact total_c _ _ _ (hi.drewN m) HS2.out)
    go_wp2_with fail
    go_quiet ((go_at_call 15; exact Calls.quiet_of_same (HTOT.out _)))
    go_wp2
    go_ret2
    exact ⟨ret_2bools HMUL.out Q2.out.symm, u1.drewN _⟩
end Go.Proofs.Ytmfbbkackdmbpaa
