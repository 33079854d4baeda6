/- qFalling and descending: the amounts from the greatest to the least. -/
import Derived.Test.YtmfbbkackdmbpaaCloneG
import Derived.Test.YtmfbbkackdmbpaaCell
import Derived.Test.YtmfbbkackdmbpaaFallP
import Derived.BigRegion
namespace Go.Proofs.Ytmfbbkackdmbpaa
open Go.RowKit

set_option maxHeartbeats 1600000 in
theorem qFalling_c (v : Value) (xs : List Int) (w : World) (h : Ints w v xs) (hl : xs.length ≤ 1048576) :
    Calls Try.prog 13 #[v] w (RetInts (fun v' => v') w (fallI xs)) := by
  have H := Lib.hid h; clear h
  go_enter Try.func13, Try.ntmps13
  go_wp2_with fail
  refine (l1OwnG_c _ xs _ H.out hl).mono ?_
  rintro e w1 ⟨v1, rfl, o1, u1⟩
  obtain ⟨ao, cap, rfl, c1, c2, oa⟩ := o1
  have HO0 := Lib.hid oa; clear oa
  go_wp2
  go_loopw [11] (fun i wr => ∃ (j : Nat) (ys : List Int), j ≤ xs.length ∧ i = .int .i64 j ∧ ys.Perm xs ∧ FallTo ys j ∧ OwnA w.heap.size w1.heap.size wr ao ys ∧ Ext w wr ∧ w1.heap.size ≤ wr.heap.size) (fun i _ => xs.length - (intOf i).toNat)
  case atStart => exact ⟨0, xs, Nat.zero_le _, rfl, List.Perm.refl _, fun a b _ hb => by omega, HO0.out, u1, Nat.le_refl _⟩
  case round =>
    clear HO0
    obtain ⟨j, ys, hj, rfl, hp, hf, ho, hx, hsz⟩ := hrel
    obtain ⟨wo, rfl⟩ : ∃ wo : World, wo = wr := ⟨_, rfl⟩
    have HPM := Lib.hid hp; clear hp
    have HF := Lib.hid hf; clear hf
    have HO := Lib.hid ho; clear ho
    by_cases hlt : j < xs.length
    · go_wp2
      go_loopw [5] (fun kk wr => ∃ (k : Nat) (zs : List Int), k ≤ j ∧ kk = .int .i64 k ∧ zs.Perm xs ∧ Sinks zs j k ∧ OwnA w.heap.size w1.heap.size wr ao zs ∧ Ext w wr ∧ w1.heap.size ≤ wr.heap.size) (fun kk _ => (intOf kk).toNat)
      case atStart => exact ⟨j, ys, Nat.le_refl _, rfl, HPM.out, Sinks.start HF.out, HO.out, hx, hsz⟩
      case round =>
        obtain ⟨k, zs, hk, rfl, hq, hs, ho, hy, hsy⟩ := hrel
        obtain ⟨wi, rfl⟩ : ∃ wi : World, wi = wr := ⟨_, rfl⟩
        have HQ := Lib.hid hq
        have HSI := Lib.hid hs; clear hs
        have HOI := Lib.hid ho; clear ho
        have hzl : zs.length = xs.length := hq.length_eq
        have HZL := Lib.hid hzl
        clear hq
        by_cases hk0 : k = 0
        · subst hk0
          have HFS := Lib.hid (HSI.out.stop (by omega) (.inl rfl))
          clear hzl
          go_wp2_with fail
          go_region
          go_wp2
          go_roundw
          case rel => exact ⟨j + 1, zs, by omega, by go_num, HQ.out, HFS.out, HOI.out, hy.drew, hsy⟩
          case measure => simp [intOf]; omega
        · obtain ⟨m, rfl⟩ : ∃ m, k = m + 1 := ⟨k - 1, by omega⟩
          obtain ⟨b, o, rfl, l1, l2, l3, z0, z1⟩ := HOI.out.at_ (k := m) (by omega)
          obtain ⟨b', o', e', _, _, _, y0, y1⟩ := HOI.out.at_ (k := m + 1) (by omega)
          simp only [Option.some.injEq, Addr.mk.injEq, and_true] at e'
          obtain ⟨rfl, rfl⟩ := e'
          have k1 : ((m + 1 : Nat) : Int) - 1 = (m : Int) := by omega
          have k2 : IntKind.i64.wrap (m : Int) = (m : Int) := IntWalk.i64_in _ (by omega)
          have k3 : (0 : Int) < ((m + 1 : Nat) : Int) := by omega
          have k4 : (0 : Int) ≤ (m : Int) := by omega
          have k5 : (m : Int) < (xs.length : Int) := by omega
          have k6 : ((m + 1 : Nat) : Int) < (xs.length : Int) := by omega
          have k7 : (0 : Int) ≤ ((m + 1 : Nat) : Int) := by omega
          clear hk0
          by_cases hlt2 : ix zs m < ix zs (m + 1)
          · have HST := Lib.hid (HSI.out.step (by omega) hk (by omega) (by simpa using hlt2))
            have HPQ := Lib.hid ((swapAt_perm (ys := zs) (k := m + 1) (by omega) (by omega)).trans HQ.out)
            clear hzl
            go_wp2_with fail
            go_region
            go_wp2_with go_region
            go_roundw
            case rel => exact ⟨m, swapAt zs (m + 1), by omega, by go_num, HPQ.out, HST.out, ((HOI.out.ext (Ext.refl wi).drew).set (k := m + 1) (by have := HZL.out; omega) _).set (k := m) (by have := HZL.out; simp; omega) _, (hy.drew.setCell (a := ⟨b, o + (m + 1), none⟩) _ l1).setCell (a := ⟨b, o + m, none⟩) _ l1, by simpa [World.setCell] using hsy⟩
            case measure => simp [intOf]
          · have HFS := Lib.hid (HSI.out.stop (by omega) (.inr (by simpa using hlt2)))
            clear hzl
            go_wp2_with fail
            go_region
            go_wp2
            go_roundw
            case rel => exact ⟨j + 1, zs, by omega, by go_num, HQ.out, HFS.out, HOI.out, hy.drew, hsy⟩
            case measure => simp [intOf]; omega
    · have hjl : j = xs.length := by omega
      have hpl := HPM.out.length_eq
      have hfin : ys = fallI xs := eq_fallI HPM.out (pairwise_ix (fun a b hab hb => HF.out a b hab (by omega)))
      have HFI := Lib.hid hfin
      have ho := HO.out
      rw [hfin] at ho
      have hown : Own w.heap.size wo.heap.size wo (.slice ao xs.length cap) (fallI xs) := ⟨ao, cap, by rw [fallI_len], by rw [fallI_len]; exact c1, c2, ho.mono (Nat.le_refl _) hsz⟩
      have HOW := Lib.hid hown
      clear hown ho hfin hpl
      go_wp2
      go_ret
      exact ⟨_, rfl, HOW.out, hx⟩

set_option maxHeartbeats 1600000 in
theorem descending_b (b : Bool) (v : Value) (xs : List Int) (w : World) (hb : amB xs = b) (h : Ints w v xs) :
    Calls Try.prog 14 #[v] w fun e w' => ∃ v', e = .returned (.tuple #[v', .bool b]) ∧ Own w.heap.size w'.heap.size w' v' (if b = true then fallI xs else []) ∧ Ext w w' := by
  subst hb
  have H := Lib.hid h
  obtain ⟨ao, cap, rfl, h1, h2, h3⟩ := h
  have G := Lib.hid h3; clear h3
  have HF : Hid (¬ AmP xs → amB xs = false) := Lib.hid (fun h => amB_not h)
  have HT : Hid (AmP xs → amB xs = true) := Lib.hid (fun h => amB_true.2 h)
  obtain ⟨B, hB⟩ : ∃ B, amB xs = B := ⟨_, rfl⟩
  rw [hB] at HF HT ⊢
  clear hB
  by_cases hl : 40 < xs.length
  · have hb := HF.out (fun h => by have := h.1; omega)
    subst hb
    clear HF HT
    go_enter Try.func14, Try.ntmps14
    go_wp2
    go_ret2
    exact ⟨_, rfl, Own.nil, Ext.refl w⟩
  go_enter Try.func14, Try.ntmps14
  go_wp2
  go_loop [12] (fun i => ∃ k : Nat, k ≤ xs.length ∧ i = .int .i64 k ∧ ∀ j, j < k → 0 ≤ ix xs j ∧ ix xs j ≤ 1000000) (fun i => xs.length - (intOf i).toNat)
  case atStart => exact ⟨0, Nat.zero_le _, rfl, fun j hj => by omega⟩
  case round =>
    obtain ⟨k, hk, rfl, hj⟩ := hrel
    have HJ := Lib.hid hj; clear hj
    by_cases hlt : k < xs.length
    · obtain ⟨b, o, rfl, hc⟩ := G.out k hlt
      obtain ⟨x, hx⟩ : ∃ x, ix xs k = x := ⟨_, rfl⟩
      rw [hx] at hc
      have HXX := Lib.hid hx; clear hx
      by_cases hx0 : x < 0
      · have hb := HF.out (fun h => by have := (h.2 k hlt).1; rw [HXX.out] at this; omega)
        subst hb
        go_wp2_with go_region
        go_ret2
        exact ⟨_, rfl, Own.nil, Ext.refl w⟩
      · by_cases hx1 : 1000000 < x
        · have hb := HF.out (fun h => by have := (h.2 k hlt).2; rw [HXX.out] at this; omega)
          subst hb
          go_wp2_with go_region
          go_ret2
          exact ⟨_, rfl, Own.nil, Ext.refl w⟩
        · go_wp2_with go_region
          go_round
          case rel => exact ⟨k + 1, by omega, by go_num, fun j hj => by
            by_cases e : j = k
            · subst e; rw [HXX.out]; omega
            · exact HJ.out j (by omega)⟩
          case measure => simp [intOf]; omega
    · have hb := HT.out ⟨by omega, fun j hj => HJ.out j (by omega)⟩
      subst hb
      have hn : sortI xs = [] ∨ ¬ sortI xs = [] := Classical.em _
      clear HF HT
      have hsl := sortI_len xs
      go_wp2_with fail
      refine (cloneG_c _ xs _ H.out (by omega)).mono ?_
      rintro e w1 ⟨v1, rfl, o1, u1⟩
      go_wp2_with fail
      refine (sort_c _ _ _ xs _ o1 (by omega)).mono ?_
      rintro e w2 ⟨rfl, o2, u2⟩
      have v2 := u1.of_upd u2 (fun b hb => by have := o1.range hb.1; rw [hb.2]; exact this.1)
      go_wp2_with fail
      refine (rev_c _ _ _ (sortI xs) _ o2 (by omega)).mono ?_
      rintro e w3 ⟨rfl, o3, u3⟩
      have v3 := v2.of_upd u3 (fun b hb => by have := o2.range hb.1; rw [hb.2]; exact this.1)
      have o3' := o3.mono (hi' := w3.heap.size) (Nat.le_refl _) (Nat.le_trans u2.size u3.size)
      have HO := Lib.hid o3'
      clear o3 o3' o1 o2 hn hsl
      go_wp2
      go_ret2
      exact ⟨_, rfl, HO.out, v3⟩
end Go.Proofs.Ytmfbbkackdmbpaa
