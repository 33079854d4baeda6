/- IsDominated and IsExposedShare, the spec's. -/
import Derived.Test.YtmfbbkackdmbpaaFall
import Derived.Test.YtmfbbkackdmbpaaGrid
import Derived.Test.YtmfbbkackdmbpaaFallP
import Derived.Test.YtmfbbkackdmbpaaSums
namespace Go.Proofs.Ytmfbbkackdmbpaa
open Go.RowKit

theorem ret_2bools {a a' b b' : Bool} (h : a = a') (k : b = b') : Ending.returned (.tuple #[.bool a, .bool b]) = .returned (.tuple #[.bool a', .bool b']) := by rw [h, k]
theorem amB_allIn {xs : List Int} (hl : xs.length ≤ 40) : allIn 0 1000000 xs = amB xs := by
  apply Bool.eq_iff_iff.2
  rw [amB_true]
  constructor
  · intro h
    refine ⟨hl, fun k hk => ?_⟩
    have := (List.all_eq_true.1 h) _ (ix_mem hk)
    simpa using this
  · intro h
    apply List.all_eq_true.2
    intro x hx
    have := h.mem hx
    simpa using this

theorem qAmounts_b (b : Bool) (v : Value) (xs : List Int) (w : World) (hb : amB xs = b) (h : Ints w v xs) : Calls Try.prog 11 #[v] w fun e w' => e = .returned (.bool b) ∧ w' = w := by
  subst hb
  have H := Lib.hid h
  obtain ⟨ao, cap, rfl, h1, h2, h3⟩ := h
  clear h3
  by_cases hl : xs.length ≤ 40
  · have HA := Lib.hid (amB_allIn hl)
    go_enter Try.func11, Try.ntmps11
    go_wp2_with fail
    refine (l1All_c _ xs 0 1000000 _ H.out).mono ?_
    rw [HA.out]
    rintro e w' ⟨rfl, rfl⟩
    go_wp2
    go_ret
    exact ⟨rfl, rfl⟩
  · have HA := Lib.hid (amB_not (xs := xs) (fun h => hl h.1))
    go_enter Try.func11, Try.ntmps11
    go_wp2
    go_ret
    exact ⟨ret_bool (by rw [HA.out]), rfl⟩

set_option maxHeartbeats 1600000 in
theorem specIsDominated_c (v : Value) (xs : List Int) (n p : Int) (w : World) (h : Ints w v xs) (hn : n ≤ 9223372036854775807) :
    Calls Try.prog 9 #[v, .int .i64 n, .int .i64 p] w fun e w' => e = .returned (.tuple #[.bool (dmV xs n p), .bool (dmB xs n p)]) ∧ Ext w w' := by
  have H := Lib.hid h; clear h
  have HF : Hid (¬ DmP xs n p → dmV xs n p = false ∧ dmB xs n p = false) := Lib.hid (fun h => by simp [dmV, dmB, h])
  have HT : Hid (DmP xs n p → dmV xs n p = decide (p * xs.sum < 100 * ((fallI xs).take n.toNat).sum) ∧ dmB xs n p = true) := Lib.hid (fun h => by simp [dmV, dmB, h])
  obtain ⟨V, hV⟩ : ∃ V, dmV xs n p = V := ⟨_, rfl⟩
  obtain ⟨B, hB⟩ : ∃ V, dmB xs n p = V := ⟨_, rfl⟩
  rw [hV, hB] at HF HT ⊢
  clear hV hB
  cases ha : amB xs
  · obtain ⟨q1, q2⟩ := HF.out (fun h => by have := amB_true.2 h.1; rw [ha] at this; cases this)
    subst q1 q2
    have HA := Lib.hid ha; clear ha HF HT
    go_enter Try.func9, Try.ntmps9
    go_wp2_with fail
    refine (qAmounts_b false _ xs _ HA.out H.out).mono ?_
    rintro e w' ⟨rfl, rfl⟩
    go_wp2
    go_ret2
    exact ⟨rfl, Ext.refl _⟩
  have HA := Lib.hid ha
  have HAP := Lib.hid (amB_true.1 ha)
  clear ha
  cases hn1 : (decide (1 ≤ n) && decide (n ≤ 10))
  · obtain ⟨q1, q2⟩ := HF.out (fun h => by have := h.2.1; simp [this.1, this.2] at hn1)
    subst q1 q2
    have HN := Lib.hid hn1; clear hn1 HF HT
    go_enter Try.func9, Try.ntmps9
    go_wp2_with fail
    refine (qAmounts_b true _ xs _ HA.out H.out).mono ?_
    rintro e w' ⟨rfl, rfl⟩
    go_wp2_with fail
    refine (l1In_b false n 1 10 _ HN.out).mono ?_
    rintro e w' ⟨rfl, rfl⟩
    go_wp2
    go_ret2
    exact ⟨rfl, Ext.refl _⟩
  have HN := Lib.hid hn1
  have hn2 : 1 ≤ n ∧ n ≤ 10 := by simpa using hn1
  clear hn1
  cases hp1 : (decide (0 ≤ p) && decide (p ≤ 100))
  · obtain ⟨q1, q2⟩ := HF.out (fun h => by have := h.2.2; simp [this.1, this.2] at hp1)
    subst q1 q2
    have HP := Lib.hid hp1; clear hp1 HF HT
    go_enter Try.func9, Try.ntmps9
    go_wp2_with fail
    refine (qAmounts_b true _ xs _ HA.out H.out).mono ?_
    rintro e w' ⟨rfl, rfl⟩
    go_wp2_with fail
    refine (l1In_b true n 1 10 _ HN.out).mono ?_
    rintro e w' ⟨rfl, rfl⟩
    go_wp2_with fail
    refine (l1In_b false p 0 100 _ HP.out).mono ?_
    rintro e w' ⟨rfl, rfl⟩
    go_wp2
    go_ret2
    exact ⟨rfl, Ext.refl _⟩
  have HP := Lib.hid hp1
  have hp2 : 0 ≤ p ∧ p ≤ 100 := by simpa using hp1
  clear hp1
  obtain ⟨q1, q2⟩ := HT.out ⟨HAP.out, hn2, hp2⟩
  have hl40 := HAP.out.1
  have hff := fallI_len xs
  have HSU := Lib.hid (HAP.out.sumOk (ys := fallI xs) (fun x hx => hx) (by omega))
  go_enter Try.func9, Try.ntmps9
  go_wp2_with fail
  refine (qAmounts_b true _ xs _ HA.out H.out).mono ?_
  rintro e w' ⟨rfl, rfl⟩
  go_wp2_with fail
  refine (l1In_b true n 1 10 _ HN.out).mono ?_
  rintro e w' ⟨rfl, rfl⟩
  go_wp2_with fail
  refine (l1In_b true p 0 100 _ HP.out).mono ?_
  rintro e w' ⟨rfl, rfl⟩
  go_wp2_with fail
  refine (qFalling_c _ xs _ H.out (by omega)).mono ?_
  rintro e w1 ⟨v1, rfl, o1, u1⟩
  have oi := o1.ints
  clear o1
  obtain ⟨ao, cap, rfl, c1, c2, g⟩ := oi
  have G := Lib.hid g; clear g
  have HN2 : Hid (((n.toNat : Nat) : Int) = n) := Lib.hid (by omega)
  have HAS := Lib.hid HAP.out.sumOk0
  have hsum := HAP.out.sum
  have hpr := prod_bnd hp2 hsum
  have hw1 : IntKind.i64.wrap (p * xs.sum) = p * xs.sum := IntWalk.i64_in _ (by omega)
  have HLE := Lib.hid hff
  rw [hff]
  clear hff c1 c2 hsum hpr
  obtain ⟨q1', hq1⟩ : ∃ x, x = q1 := ⟨_, rfl⟩
  have Q1 := Lib.hid q1; have Q2 := Lib.hid q2
  clear q1 q2 hq1 q1'
  go_wp2
  go_loop [8, 27] (fun t i => ∃ k : Nat, k ≤ xs.length ∧ i = .int .i64 k ∧ t = .int .i64 (topTo (fallI xs) n.toNat k)) (fun _ i => xs.length - (intOf i).toNat)
  case atStart => exact ⟨0, Nat.zero_le _, rfl, by rw [topTo_zero]⟩
  case round =>
    obtain ⟨k, hk, rfl, rfl⟩ := hrel
    have hT := HAP.out.topTo n.toNat k
    by_cases hlt : k < xs.length
    · obtain ⟨b, o, rfl, hc⟩ := G.out k (by have := HLE.out; omega)
      have hx := HAP.out.ixF hlt
      by_cases hkn : k < n.toNat
      · have HT1 := Lib.hid (topTo_in (f := fallI xs) (N := n.toNat) (by have := HLE.out; omega) hkn)
        have hkn' : (k : Int) < n := by omega
        obtain ⟨T, hT'⟩ : ∃ T, topTo (fallI xs) n.toNat k = T := ⟨_, rfl⟩
        obtain ⟨x, hx'⟩ : ∃ x, ix (fallI xs) k = x := ⟨_, rfl⟩
        rw [hT'] at hT HT1 ⊢
        rw [hx'] at hx HT1 hc
        clear hT' hx' hkn
        have hw2 : IntKind.i64.wrap (T + x) = T + x := IntWalk.i64_in _ (by omega)
        go_wp2
        go_round
        case rel => exact ⟨k + 1, by omega, by go_num, by rw [HT1.out]⟩
        case measure => simp [intOf]; omega
      · have HT1 := Lib.hid (topTo_out (f := fallI xs) (N := n.toNat) (i := k) (by omega))
        have hkn' : ¬ (k : Int) < n := by omega
        clear hkn
        go_wp2
        go_round
        case rel => exact ⟨k + 1, by omega, by go_num, by rw [HT1.out]⟩
        case measure => simp [intOf]; omega
    · have HTA : Hid (topTo (fallI xs) n.toNat k = ((fallI xs).take n.toNat).sum) := Lib.hid (by rw [show k = (fallI xs).length by have := HLE.out; omega, topTo_all])
      rw [HTA.out] at hT ⊢
      have hq := Q1.out
      obtain ⟨T, hT'⟩ : ∃ T, ((fallI xs).take n.toNat).sum = T := ⟨_, rfl⟩
      rw [hT'] at hT hq ⊢
      have HQ := Lib.hid hq
      clear hT' hq
      have hw2 : IntKind.i64.wrap (100 * T) = 100 * T := IntWalk.i64_in _ (by omega)
      go_wp2_with fail
      refine (tSum_c _ xs _ (H.out.ext u1) HAS.out).mono ?_
      rintro e w' ⟨rfl, rfl⟩
      go_wp2
      go_ret2
      exact ⟨ret_2bools HQ.out.symm Q2.out.symm, u1⟩
end Go.Proofs.Ytmfbbkackdmbpaa
