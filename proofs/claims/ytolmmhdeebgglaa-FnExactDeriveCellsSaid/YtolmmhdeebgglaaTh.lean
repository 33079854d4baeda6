/- Whether a table follows from another one: the program's followsFrom. -/
import Derived.Test.YtolmmhdeebgglaaTf
import Derived.BigRegion
import Derived.BigQuiet
import Derived.Deep.LoopGhost
import Derived.Deep.CutRange
import Derived.Deep.CutBlock
import Derived.Deep.RegionHeld3
namespace Go.Proofs.Ytolmmhdeebgglaa
open Go.RowKit

set_option maxRecDepth 100000 in
set_option maxHeartbeats 6400000 in
theorem followsFrom_b (b : Bool) (v1 v2 v3 v4 : Value) (T : Ge) (s : List Vr) (t u : Ta) (w : World) (hb : folB T.par s t u = b) (h1 : GeR w v1 T) (h2 : Vrs w v2 s) (h3 : TaR w v3 t) (h4 : TaR w v4 u) (hg : GeoP T.par) (hs : SchP s) (ht : TabP T.par s t) (hu : TabP T.par s u) :
    Calls Try.prog 41 #[v1, v2, v3, v4] w fun e w' => e = .returned (.bool b) ∧ Ext w w' := by
  subst hb
  have HG := Lib.hid hg; clear hg
  have HS := Lib.hid hs; clear hs
  have htl := lev_nonneg ht
  have hul := lev_nonneg hu
  have HWT := Lib.hid ht.2.1
  have HWU := Lib.hid hu.2.1
  have hvt := rising_six HS.out ht.1
  clear ht hu
  have R1 := Lib.hid h1
  have R2 := Lib.hid h2
  have R3 := Lib.hid h3
  have R4 := Lib.hid h4
  obtain ⟨y1, rfl, i1⟩ := h1
  clear i1
  obtain ⟨sa, sc, ev, sl⟩ : ∃ sa sc, v2 = .slice sa s.length sc ∧ s.length ≤ 9223372036854775807 := by
    obtain ⟨sa, sc, e, l1, l2, _⟩ := h2; exact ⟨sa, sc, e, by omega⟩
  subst ev
  clear h2
  obtain ⟨x1, x2, rfl, i1, i2⟩ := h3
  clear i2
  obtain ⟨z1, z2, rfl, i3, i4⟩ := h4
  clear i4
  have J1 := Lib.hid i3
  obtain ⟨a2, c2, rfl, p1, p2, g2⟩ := i1
  have G2 := Lib.hid g2; clear g2 i3
  obtain ⟨A, hA⟩ : ∃ A, t.level = A := ⟨_, rfl⟩
  obtain ⟨B, hB⟩ : ∃ B, t.sum = B := ⟨_, rfl⟩
  obtain ⟨C, hC⟩ : ∃ C, u.level = C := ⟨_, rfl⟩
  obtain ⟨D, hD⟩ : ∃ D, u.sum = D := ⟨_, rfl⟩
  obtain ⟨n, hn⟩ : ∃ n, t.vars.length = n := ⟨_, rfl⟩
  rw [hn] at p1 hvt
  rw [hn, hA, hB] at R3
  rw [hC, hD] at R4
  rw [hA] at htl
  rw [hC] at hul
  rw [hA, hB, hC, hD, hn]
  have HLV : Hid (LvP T.par t.level u.level ↔ LvP T.par A C) := Lib.hid (by rw [hA, hC])
  have HSM : Hid (SumP t u ↔ (B = D ∨ (D = -1 ∧ hasI u.vars B = true))) := Lib.hid (by rw [← hB, ← hD]; exact Iff.rfl)
  have HLB : Hid (lvB T.par t.level u.level = lvB T.par A C) := Lib.hid (by rw [hA, hC])
  have HHT : Hid (0 ≤ t.level ∧ 0 ≤ u.level) := Lib.hid ⟨by omega, by omega⟩
  have HVN := Lib.hid hn
  clear hA hB hC hD hn
  have u0 := (((Ext.refl w).alloc (.cells #[y1] 33)).alloc (.cells #[.int .i64 A, .slice a2 n c2, x2, .int .i64 B] 56)).alloc (.cells #[.int .i64 C, z1, z2, .int .i64 D] 56)
  have b1 := ((Box.new w 33 #[y1] rfl).alloc (.cells #[.int .i64 A, .slice a2 n c2, x2, .int .i64 B] 56)).alloc (.cells #[.int .i64 C, z1, z2, .int .i64 D] 56)
  have b2 := (Box.new (w.alloc (.cells #[y1] 33)) 56 #[.int .i64 A, .slice a2 n c2, x2, .int .i64 B] (b := w.heap.size + 1) (by simp)).alloc (.cells #[.int .i64 C, z1, z2, .int .i64 D] 56)
  have b3 := Box.new ((w.alloc (.cells #[y1] 33)).alloc (.cells #[.int .i64 A, .slice a2 n c2, x2, .int .i64 B] 56)) 56 #[.int .i64 C, z1, z2, .int .i64 D] (b := w.heap.size + 1 + 1) (by simp)
  have R1 := Lib.hid (R1.out.ext u0)
  have R2 := Lib.hid (R2.out.ext u0)
  have R3 := Lib.hid (R3.out.ext u0)
  have R4 := Lib.hid (R4.out.ext u0)
  have J1 := Lib.hid (J1.out.ext u0)
  have G2 := Lib.hid (show IntsA _ a2 t.vars from G2.out.upd u0 (fun _ s => s))
  clear HLB HHT
  have c0 := b1.cell 0 (by simp)
  have d0 := b2.cell 0 (by simp)
  have e0 := b3.cell 0 (by simp)
  by_cases hAC : A = C
  · have HLO : Hid (LvP T.par t.level u.level) := Lib.hid (HLV.out.2 ⟨by omega, fun h => by omega⟩)
    have hq : (A != C) = false := by simp [hAC]
    clear hAC HLV htl hul
    go_enter Try.func41, Try.ntmps41
    go_upto_region 11 with fail
    obtain ⟨wq, hwq⟩ : ∃ wq, wq = ((w.alloc (.cells #[y1] 33)).alloc (.cells #[.int .i64 A, .slice a2 n c2, x2, .int .i64 B] 56)).alloc (.cells #[.int .i64 C, z1, z2, .int .i64 D] 56) := ⟨_, rfl⟩
    rw [← hwq] at u0 b1 b2 b3 R1 R2 R3 R4 J1 G2
    try rw [← hwq]
    clear hwq c0 d0 e0
    obtain ⟨wp, rfl⟩ : ∃ wp : World, wp = wq := ⟨_, rfl⟩
    have uu := u0
    clear u0 R1
    -- BEGIN cut same
    have c0 := ((b1)).cell 0 (by simp)
    have d0 := ((b2)).cell 0 (by simp)
    have d1 := ((b2)).cell 1 (by simp)
    have d2 := ((b2)).cell 2 (by simp)
    have d3 := ((b2)).cell 3 (by simp)
    have e0 := ((b3)).cell 0 (by simp)
    have e1 := ((b3)).cell 1 (by simp)
    have e2 := ((b3)).cell 2 (by simp)
    have e3 := ((b3)).cell 3 (by simp)
    go_wp2_with fail
    go_loop [51] (fun i => ∃ k : Nat, k ≤ n ∧ i = .int .i64 k ∧ ∀ j, j < k → hasI u.vars (ix t.vars j) = true) (fun i => n - (intOf i).toNat)
    case atStart => exact ⟨0, Nat.zero_le _, rfl, (fun j hj => by omega)⟩
    case round =>
      obtain ⟨k, hk, rfl, hj⟩ := hrel
      have HJ := Lib.hid hj; clear hj
      by_cases hlt : k < n
      · obtain ⟨bb, oo, rfl, hc⟩ := G2.out k (by rw [HVN.out]; exact hlt)
        obtain ⟨x, hx⟩ : ∃ x, ix t.vars k = x := ⟨_, rfl⟩
        rw [hx] at hc
        rcases hh : hasI u.vars x with _ | _
        · have HB := Lib.hid (folB_not (par := T.par) (s := s) (t := t) (u := u) (fun h => by have := h.2.2.1 k (by rw [HVN.out]; exact hlt); rw [hx, hh] at this; cases this))
          have HH := Lib.hid hh
          clear hh hx
          go_wp2_with fail
          refine (containsI_b false _ u.vars x _ HH.out J1.out).mono ?_
          rintro e w2 ⟨rfl, hw2⟩
          rw [hw2]
          go_wp2
          go_ret
          exact ⟨ret_bool HB.out.symm, uu⟩
        · have HX : Hid (∀ j, j < k + 1 → hasI u.vars (ix t.vars j) = true) := Lib.hid (fun j hj => by
            by_cases e : j = k
            · rw [e, hx]; exact hh
            · exact HJ.out j (by omega))
          have HH := Lib.hid hh
          clear hh hx
          go_wp2_with fail
          refine (containsI_b true _ u.vars x _ HH.out J1.out).mono ?_
          rintro e w2 ⟨rfl, hw2⟩
          rw [hw2]
          go_wp2
          go_round
          case rel => exact ⟨k + 1, by omega, by go_num, HX.out⟩
          case measure => simp [intOf]; omega
      · have HPV : Hid (VarsP t u) := Lib.hid (fun j hj => HJ.out j (by rw [HVN.out] at hj; omega))
        clear HJ c0 d0 d1 d2 d3 e0 e1 e2 e3
        go_wp2_with fail
        go_loopw [63] (fun i wr => ∃ k : Nat, k ≤ s.length ∧ i = .int .i64 k ∧ (∀ j, j < k → setV s t j = setV s u j ∨ (hasI u.vars j = true ∧ SubV (setV s t j) (setV s u j))) ∧ Ext wp wr) (fun i _ => s.length - (intOf i).toNat)
        case atStart => exact ⟨0, Nat.zero_le _, rfl, (fun j hj => by omega), Ext.refl _⟩
        case round =>
          obtain ⟨k2, hk2, rfl, hj, hx⟩ := hrel
          obtain ⟨wo, rfl⟩ : ∃ wo : World, wo = wr := ⟨_, rfl⟩
          have HJ := Lib.hid hj; clear hj
          by_cases hlt2 : k2 < s.length
          · have HNB : Hid (¬ (setV s t k2 = setV s u k2 ∨ (hasI u.vars k2 = true ∧ SubV (setV s t k2) (setV s u k2))) → folB T.par s t u = false) := Lib.hid (fun h => folB_not (fun hp => h (hp.2.2.2 k2 hlt2)))
            have HNX : Hid ((setV s t k2 = setV s u k2 ∨ (hasI u.vars k2 = true ∧ SubV (setV s t k2) (setV s u k2))) → ∀ j, j < k2 + 1 → setV s t j = setV s u j ∨ (hasI u.vars j = true ∧ SubV (setV s t j) (setV s u j))) := Lib.hid (fun h j hj => by
              by_cases e : j = k2
              · rw [e]; exact h
              · exact HJ.out j (by omega))
            have HRG := Lib.hid (setV_range HS.out HWT.out hlt2)
            obtain ⟨X, hX⟩ : ∃ X, setV s t k2 = X := ⟨_, rfl⟩
            obtain ⟨Y, hY⟩ : ∃ Y, setV s u k2 = Y := ⟨_, rfl⟩
            rw [hX, hY] at HNB HNX
            rw [hX] at HRG
            have HX1 := Lib.hid hX
            have HY1 := Lib.hid hY
            clear hX hY
            have F0 : ∀ z : ExtOf wo, z.w.cell? ⟨w.heap.size + 1, 0, none⟩ = some (.int .i64 A) := fun z => (b2.ext (hx.trans z.ext)).cell 0 (by simp)
            have F1 : ∀ z : ExtOf wo, z.w.cell? ⟨w.heap.size + 1, 1, none⟩ = some (.slice a2 n c2) := fun z => (b2.ext (hx.trans z.ext)).cell 1 (by simp)
            have F2 : ∀ z : ExtOf wo, z.w.cell? ⟨w.heap.size + 1, 2, none⟩ = some x2 := fun z => (b2.ext (hx.trans z.ext)).cell 2 (by simp)
            have F3 : ∀ z : ExtOf wo, z.w.cell? ⟨w.heap.size + 1, 3, none⟩ = some (.int .i64 B) := fun z => (b2.ext (hx.trans z.ext)).cell 3 (by simp)
            have F4 : ∀ z : ExtOf wo, z.w.cell? ⟨w.heap.size + 1 + 1, 0, none⟩ = some (.int .i64 C) := fun z => (b3.ext (hx.trans z.ext)).cell 0 (by simp)
            have F5 : ∀ z : ExtOf wo, z.w.cell? ⟨w.heap.size + 1 + 1, 1, none⟩ = some z1 := fun z => (b3.ext (hx.trans z.ext)).cell 1 (by simp)
            have F6 : ∀ z : ExtOf wo, z.w.cell? ⟨w.heap.size + 1 + 1, 2, none⟩ = some z2 := fun z => (b3.ext (hx.trans z.ext)).cell 2 (by simp)
            have F7 : ∀ z : ExtOf wo, z.w.cell? ⟨w.heap.size + 1 + 1, 3, none⟩ = some (.int .i64 D) := fun z => (b3.ext (hx.trans z.ext)).cell 3 (by simp)
            have HC1 : Hid (∀ z : ExtOf wo, Calls Try.prog 75 #[.slice sa s.length sc, .agg #[.int .i64 A, .slice a2 n c2, x2, .int .i64 B], .int .i64 k2] z.w fun e w' => e = .returned (.int .i64 X) ∧ Ext z.w w') := Lib.hid (fun z => by
              have h := conditionOf_c _ _ s t k2 _ (R2.out.ext (hx.trans z.ext)) (R3.out.ext (hx.trans z.ext)) HS.out HWT.out.1 hlt2
              rwa [HX1.out] at h)
            have HC2 : Hid (∀ z : ExtOf wo, Calls Try.prog 75 #[.slice sa s.length sc, .agg #[.int .i64 C, z1, z2, .int .i64 D], .int .i64 k2] z.w fun e w' => e = .returned (.int .i64 Y) ∧ Ext z.w w') := Lib.hid (fun z => by
              have h := conditionOf_c _ _ s u k2 _ (R2.out.ext (hx.trans z.ext)) (R4.out.ext (hx.trans z.ext)) HS.out HWU.out.1 hlt2
              rwa [HY1.out] at h)
            go_wp2_with fail
            refine wp_region_quiet_ext (by kernel_rfl) (by kernel_rfl) ?_
            repeat (quiet_step ((first
              | (go_at_call 75; with_reducible exact calls_ext (HC1.out _))
              | (go_at_call 75; with_reducible exact calls_ext (HC2.out _)))))
            refine wpQuiet_nil ?_
            intro _ hw'
            obtain ⟨⟨ws, us⟩, hw''⟩ := hw'
            subst hw''
            clear F0 F1 F2 F3 F4 F5 F6 F7 HC1 HC2
            have xs := hx.trans us
            have e1 := (b3.ext xs).cell 1 (by simp)
            rcases hh : hasI u.vars (k2 : Int) with _ | _
            · have HH := Lib.hid hh
              by_cases hXY : X = Y
              · have hq : (X != Y) = false := by simp [hXY]
                have HX := Lib.hid (HNX.out (.inl hXY))
                clear hXY hh
                go_wp2_with fail
                refine (containsI_b false _ u.vars (k2 : Int) _ HH.out (J1.out.ext xs)).mono ?_
                rintro e w2 ⟨rfl, hw2⟩
                rw [hw2]
                go_wp2_with fail
                refine (containsI_b false _ u.vars (k2 : Int) _ HH.out (J1.out.ext xs)).mono ?_
                rintro e w3 ⟨rfl, hw3⟩
                rw [hw3]
                go_wp2
                go_roundw
                case rel => exact ⟨k2 + 1, by omega, by go_num, HX.out, xs⟩
                case measure => simp [intOf]; omega
              · have hq : (X != Y) = true := by simp [hXY]
                have HB := Lib.hid (HNB.out (fun h => by rcases h with h | h; exact hXY h; have h1 := h.1; rw [hh] at h1; cases h1))
                clear hXY hh
                go_wp2_with fail
                refine (containsI_b false _ u.vars (k2 : Int) _ HH.out (J1.out.ext xs)).mono ?_
                rintro e w2 ⟨rfl, hw2⟩
                rw [hw2]
                go_wp2_with fail
                refine (containsI_b false _ u.vars (k2 : Int) _ HH.out (J1.out.ext xs)).mono ?_
                rintro e w3 ⟨rfl, hw3⟩
                rw [hw3]
                go_wp2
                go_ret
                exact ⟨ret_bool HB.out.symm, uu.trans xs⟩
            · have HH := Lib.hid hh
              by_cases hsb : SubV X Y
              · have HX := Lib.hid (HNX.out (.inr ⟨hh, hsb⟩))
                have hq3 : (bits .andNot .i64 X Y != 0) = false := by simp; exact (subV_not HRG.out).1 hsb
                clear hh hsb
                go_wp2_with fail
                refine (containsI_b true _ u.vars (k2 : Int) _ HH.out (J1.out.ext xs)).mono ?_
                rintro e w2 ⟨rfl, hw2⟩
                rw [hw2]
                go_wp2_with fail
                refine (containsI_b true _ u.vars (k2 : Int) _ HH.out (J1.out.ext xs)).mono ?_
                rintro e w3 ⟨rfl, hw3⟩
                rw [hw3]
                go_wp2
                go_roundw
                case rel => exact ⟨k2 + 1, by omega, by go_num, HX.out, xs⟩
                case measure => simp [intOf]; omega
              · have HB := Lib.hid (HNB.out (fun h => by rcases h with h | h; exact hsb (by rw [h] at HRG ⊢; exact subV_refl HRG.out); exact hsb h.2))
                have hq3 : (bits .andNot .i64 X Y != 0) = true := by simp; exact fun h => hsb ((subV_not HRG.out).2 h)
                clear hh hsb
                go_wp2_with fail
                refine (containsI_b true _ u.vars (k2 : Int) _ HH.out (J1.out.ext xs)).mono ?_
                rintro e w2 ⟨rfl, hw2⟩
                rw [hw2]
                go_wp2
                go_ret
                exact ⟨ret_bool HB.out.symm, uu.trans xs⟩
          · have HPS : Hid (SetsP s t u) := Lib.hid (fun j hj => HJ.out j (by omega))
            clear HJ
            have xs := hx
            have d3 := (b2.ext xs).cell 3 (by simp)
            have e3 := (b3.ext xs).cell 3 (by simp)
            have e1 := (b3.ext xs).cell 1 (by simp)
            by_cases heq : B = D
            · have hq : (B == D) = true := by simp [heq]
              have HB := Lib.hid (folB_true (par := T.par) (s := s) (t := t) (u := u).2 ⟨HLO.out, HSM.out.2 (.inl heq), HPV.out, HPS.out⟩)
              clear heq
              go_wp2
              go_ret
              exact ⟨ret_bool HB.out.symm, uu.trans xs⟩
            · have hq : (B == D) = false := by simp [heq]
              by_cases hd : D = -1
              · have hq2 : (D == -1) = true := by simp [hd]
                rcases hh : hasI u.vars B with _ | _
                · have HB := Lib.hid (folB_not (par := T.par) (s := s) (t := t) (u := u) (fun h => by rcases HSM.out.1 h.2.1 with h | h; exact heq h; have h2 := h.2; rw [hh] at h2; cases h2))
                  have HH := Lib.hid hh
                  clear hh heq hd
                  go_wp2_with fail
                  refine (containsI_b false _ u.vars B _ HH.out (J1.out.ext xs)).mono ?_
                  rintro e w2 ⟨rfl, hw2⟩
                  rw [hw2]
                  go_wp2
                  go_ret
                  exact ⟨ret_bool HB.out.symm, uu.trans xs⟩
                · have HB := Lib.hid (folB_true (par := T.par) (s := s) (t := t) (u := u).2 ⟨HLO.out, HSM.out.2 (.inr ⟨hd, hh⟩), HPV.out, HPS.out⟩)
                  have HH := Lib.hid hh
                  clear hh heq hd
                  go_wp2_with fail
                  refine (containsI_b true _ u.vars B _ HH.out (J1.out.ext xs)).mono ?_
                  rintro e w2 ⟨rfl, hw2⟩
                  rw [hw2]
                  go_wp2
                  go_ret
                  exact ⟨ret_bool HB.out.symm, uu.trans xs⟩
              · have hq2 : (D == -1) = false := by simp [hd]
                have HB := Lib.hid (folB_not (par := T.par) (s := s) (t := t) (u := u) (fun h => by rcases HSM.out.1 h.2.1 with h | h; exact heq h; exact hd h.1))
                clear heq hd
                go_wp2
                go_ret
                exact ⟨ret_bool HB.out.symm, uu.trans xs⟩
    -- END cut same
  · have hq : (A != C) = true := by simp [hAC]
    by_cases hlt0 : C < A
    · have HB := Lib.hid (folB_not (par := T.par) (s := s) (t := t) (u := u) (fun h => by have := (HLV.out.1 h.1).1; omega))
      go_enter Try.func41, Try.ntmps41
      go_wp2
      go_ret
      exact ⟨ret_bool HB.out.symm, u0⟩
    · go_enter Try.func41, Try.ntmps41
      go_wp2_with fail
      obtain ⟨wq, hwq⟩ : ∃ wq, wq = ((w.alloc (.cells #[y1] 33)).alloc (.cells #[.int .i64 A, .slice a2 n c2, x2, .int .i64 B] 56)).alloc (.cells #[.int .i64 C, z1, z2, .int .i64 D] 56) := ⟨_, rfl⟩
      rw [← hwq] at u0 b1 b2 b3 R1 R2 R3 R4 J1 G2
      try rw [← hwq]
      clear hwq c0 d0 e0
      refine (leavesOf_c _ T _ R1.out HG.out).mono ?_
      rintro e w1 ⟨zl, rfl, il, u1⟩
      obtain ⟨al, cl, rfl, l1, l2, gl⟩ := il
      obtain ⟨L, hL⟩ : ∃ L, (leafL T.par).length = L := ⟨_, rfl⟩
      rw [hL] at l1 ⊢
      have HL := Lib.hid hL; clear hL
      have GL := Lib.hid gl; clear gl
      go_wp2_with fail
      go_loopw [30] (fun i wr => ∃ k : Nat, k ≤ L ∧ i = .int .i64 k ∧ (∀ j, j < k → ¬ (A ≤ dep T.par (leafAt T.par j) ∧ (dep T.par (leafAt T.par j) : Int) < C)) ∧ Ext w1 wr) (fun i _ => L - (intOf i).toNat)
      case atStart => exact ⟨0, Nat.zero_le _, rfl, (fun j hj => by omega), Ext.refl _⟩
      case round =>
        obtain ⟨k, hk, rfl, hj, hx⟩ := hrel
        obtain ⟨wo, rfl⟩ : ∃ wo : World, wo = wr := ⟨_, rfl⟩
        have HJ := Lib.hid hj; clear hj
        by_cases hlt : k < L
        · obtain ⟨bb, oo, rfl, hc'⟩ := GL.out k (by rw [HL.out]; exact hlt)
          have hc := Ext.cell hx hc'
          clear hc'
          obtain ⟨i, ei, hi⟩ := leafL_at (par := T.par) (k := k) (by rw [HL.out]; exact hlt)
          have HLA : Hid (leafAt T.par k = i) := Lib.hid (by unfold leafAt; omega)
          rw [ei] at hc
          have HI := Lib.hid hi
          clear ei hi
          have bg := b1.ext (u1.trans hx)
          have bt := b2.ext (u1.trans hx)
          have bu := b3.ext (u1.trans hx)
          have c1 := bg.cell 0 (by simp)
          have HN : Hid (¬ (A ≤ dep T.par i ∧ (dep T.par i : Int) < C) → ∀ j, j < k + 1 → ¬ (A ≤ dep T.par (leafAt T.par j) ∧ (dep T.par (leafAt T.par j) : Int) < C)) := Lib.hid (fun h j hj => by
            by_cases e : j = k
            · subst e; rw [HLA.out]; exact h
            · exact HJ.out j (by omega))
          have HNB : Hid ((A ≤ dep T.par i ∧ (dep T.par i : Int) < C) → folB T.par s t u = false) := Lib.hid (fun h => folB_not (fun hp => (HLV.out.1 hp.1).2 (by omega) k (by rw [HL.out]; exact hlt) (by rw [HLA.out]; exact h)))
          go_wp2_with fail
          refine (depthOf_c _ T i _ (R1.out.ext (u1.trans hx)) HG.out HI.out).mono ?_
          rintro e w2 ⟨rfl, u2⟩
          have d1 := (bt.ext u2).cell 0 (by simp)
          have e1 := (bu.ext u2).cell 0 (by simp)
          obtain ⟨d, hd⟩ : ∃ d, dep T.par i = d := ⟨_, rfl⟩
          rw [hd] at HN HNB ⊢
          clear hd
          by_cases hd1 : A ≤ d
          · by_cases hd2 : (d : Int) < C
            · have HB := Lib.hid (HNB.out ⟨hd1, hd2⟩)
              go_wp2
              go_ret
              exact ⟨ret_bool HB.out.symm, ((u0.trans u1).trans hx).trans u2⟩
            · have HX := Lib.hid (HN.out (fun h => hd2 h.2))
              go_wp2
              go_roundw
              case rel => exact ⟨k + 1, by omega, by go_num, HX.out, hx.trans u2⟩
              case measure => simp [intOf]; omega
          · have HX := Lib.hid (HN.out (fun h => hd1 h.1))
            go_wp2
            go_roundw
            case rel => exact ⟨k + 1, by omega, by go_num, HX.out, hx.trans u2⟩
            case measure => simp [intOf]; omega
        · have HLO : Hid (LvP T.par t.level u.level) := Lib.hid (HLV.out.2 ⟨by omega, fun _ j hj => HJ.out j (by rw [HL.out] at hj; omega)⟩)
          obtain ⟨wp, rfl⟩ : ∃ wp : World, wp = wo := ⟨_, rfl⟩
          have hxc := u1.trans hx
          have b1 := b1.ext hxc
          have b2 := b2.ext hxc
          have b3 := b3.ext hxc
          have R2 := Lib.hid (R2.out.ext hxc)
          have R3 := Lib.hid (R3.out.ext hxc)
          have R4 := Lib.hid (R4.out.ext hxc)
          have J1 := Lib.hid (J1.out.ext hxc)
          have G2 := Lib.hid (show IntsA wp a2 t.vars from G2.out.upd hxc (fun _ s => s))
          have uu := u0.trans hxc
          clear HLV htl hul HJ u0 u1 R1 hxc hAC hlt0 hq hx
          go_upto_region 11 with fail
          -- BEGIN cut more
          have c0 := ((b1)).cell 0 (by simp)
          have d0 := ((b2)).cell 0 (by simp)
          have d1 := ((b2)).cell 1 (by simp)
          have d2 := ((b2)).cell 2 (by simp)
          have d3 := ((b2)).cell 3 (by simp)
          have e0 := ((b3)).cell 0 (by simp)
          have e1 := ((b3)).cell 1 (by simp)
          have e2 := ((b3)).cell 2 (by simp)
          have e3 := ((b3)).cell 3 (by simp)
          go_wp2_with fail
          go_loop [51] (fun i => ∃ k : Nat, k ≤ n ∧ i = .int .i64 k ∧ ∀ j, j < k → hasI u.vars (ix t.vars j) = true) (fun i => n - (intOf i).toNat)
          case atStart => exact ⟨0, Nat.zero_le _, rfl, (fun j hj => by omega)⟩
          case round =>
            obtain ⟨k, hk, rfl, hj⟩ := hrel
            have HJ := Lib.hid hj; clear hj
            by_cases hlt : k < n
            · obtain ⟨bb, oo, rfl, hc⟩ := G2.out k (by rw [HVN.out]; exact hlt)
              obtain ⟨x, hx⟩ : ∃ x, ix t.vars k = x := ⟨_, rfl⟩
              rw [hx] at hc
              rcases hh : hasI u.vars x with _ | _
              · have HB := Lib.hid (folB_not (par := T.par) (s := s) (t := t) (u := u) (fun h => by have := h.2.2.1 k (by rw [HVN.out]; exact hlt); rw [hx, hh] at this; cases this))
                have HH := Lib.hid hh
                clear hh hx
                go_wp2_with fail
                refine (containsI_b false _ u.vars x _ HH.out J1.out).mono ?_
                rintro e w2 ⟨rfl, hw2⟩
                rw [hw2]
                go_wp2
                go_ret
                exact ⟨ret_bool HB.out.symm, uu⟩
              · have HX : Hid (∀ j, j < k + 1 → hasI u.vars (ix t.vars j) = true) := Lib.hid (fun j hj => by
                  by_cases e : j = k
                  · rw [e, hx]; exact hh
                  · exact HJ.out j (by omega))
                have HH := Lib.hid hh
                clear hh hx
                go_wp2_with fail
                refine (containsI_b true _ u.vars x _ HH.out J1.out).mono ?_
                rintro e w2 ⟨rfl, hw2⟩
                rw [hw2]
                go_wp2
                go_round
                case rel => exact ⟨k + 1, by omega, by go_num, HX.out⟩
                case measure => simp [intOf]; omega
            · have HPV : Hid (VarsP t u) := Lib.hid (fun j hj => HJ.out j (by rw [HVN.out] at hj; omega))
              clear HJ c0 d0 d1 d2 d3 e0 e1 e2 e3
              go_wp2_with fail
              go_loopw [63] (fun i wr => ∃ k : Nat, k ≤ s.length ∧ i = .int .i64 k ∧ (∀ j, j < k → setV s t j = setV s u j ∨ (hasI u.vars j = true ∧ SubV (setV s t j) (setV s u j))) ∧ Ext wp wr) (fun i _ => s.length - (intOf i).toNat)
              case atStart => exact ⟨0, Nat.zero_le _, rfl, (fun j hj => by omega), Ext.refl _⟩
              case round =>
                obtain ⟨k2, hk2, rfl, hj, hx⟩ := hrel
                obtain ⟨wo, rfl⟩ : ∃ wo : World, wo = wr := ⟨_, rfl⟩
                have HJ := Lib.hid hj; clear hj
                by_cases hlt2 : k2 < s.length
                · have HNB : Hid (¬ (setV s t k2 = setV s u k2 ∨ (hasI u.vars k2 = true ∧ SubV (setV s t k2) (setV s u k2))) → folB T.par s t u = false) := Lib.hid (fun h => folB_not (fun hp => h (hp.2.2.2 k2 hlt2)))
                  have HNX : Hid ((setV s t k2 = setV s u k2 ∨ (hasI u.vars k2 = true ∧ SubV (setV s t k2) (setV s u k2))) → ∀ j, j < k2 + 1 → setV s t j = setV s u j ∨ (hasI u.vars j = true ∧ SubV (setV s t j) (setV s u j))) := Lib.hid (fun h j hj => by
                    by_cases e : j = k2
                    · rw [e]; exact h
                    · exact HJ.out j (by omega))
                  have HRG := Lib.hid (setV_range HS.out HWT.out hlt2)
                  obtain ⟨X, hX⟩ : ∃ X, setV s t k2 = X := ⟨_, rfl⟩
                  obtain ⟨Y, hY⟩ : ∃ Y, setV s u k2 = Y := ⟨_, rfl⟩
                  rw [hX, hY] at HNB HNX
                  rw [hX] at HRG
                  have HX1 := Lib.hid hX
                  have HY1 := Lib.hid hY
                  clear hX hY
                  have F0 : ∀ z : ExtOf wo, z.w.cell? ⟨w.heap.size + 1, 0, none⟩ = some (.int .i64 A) := fun z => (b2.ext (hx.trans z.ext)).cell 0 (by simp)
                  have F1 : ∀ z : ExtOf wo, z.w.cell? ⟨w.heap.size + 1, 1, none⟩ = some (.slice a2 n c2) := fun z => (b2.ext (hx.trans z.ext)).cell 1 (by simp)
                  have F2 : ∀ z : ExtOf wo, z.w.cell? ⟨w.heap.size + 1, 2, none⟩ = some x2 := fun z => (b2.ext (hx.trans z.ext)).cell 2 (by simp)
                  have F3 : ∀ z : ExtOf wo, z.w.cell? ⟨w.heap.size + 1, 3, none⟩ = some (.int .i64 B) := fun z => (b2.ext (hx.trans z.ext)).cell 3 (by simp)
                  have F4 : ∀ z : ExtOf wo, z.w.cell? ⟨w.heap.size + 1 + 1, 0, none⟩ = some (.int .i64 C) := fun z => (b3.ext (hx.trans z.ext)).cell 0 (by simp)
                  have F5 : ∀ z : ExtOf wo, z.w.cell? ⟨w.heap.size + 1 + 1, 1, none⟩ = some z1 := fun z => (b3.ext (hx.trans z.ext)).cell 1 (by simp)
                  have F6 : ∀ z : ExtOf wo, z.w.cell? ⟨w.heap.size + 1 + 1, 2, none⟩ = some z2 := fun z => (b3.ext (hx.trans z.ext)).cell 2 (by simp)
                  have F7 : ∀ z : ExtOf wo, z.w.cell? ⟨w.heap.size + 1 + 1, 3, none⟩ = some (.int .i64 D) := fun z => (b3.ext (hx.trans z.ext)).cell 3 (by simp)
                  have HC1 : Hid (∀ z : ExtOf wo, Calls Try.prog 75 #[.slice sa s.length sc, .agg #[.int .i64 A, .slice a2 n c2, x2, .int .i64 B], .int .i64 k2] z.w fun e w' => e = .returned (.int .i64 X) ∧ Ext z.w w') := Lib.hid (fun z => by
                    have h := conditionOf_c _ _ s t k2 _ (R2.out.ext (hx.trans z.ext)) (R3.out.ext (hx.trans z.ext)) HS.out HWT.out.1 hlt2
                    rwa [HX1.out] at h)
                  have HC2 : Hid (∀ z : ExtOf wo, Calls Try.prog 75 #[.slice sa s.length sc, .agg #[.int .i64 C, z1, z2, .int .i64 D], .int .i64 k2] z.w fun e w' => e = .returned (.int .i64 Y) ∧ Ext z.w w') := Lib.hid (fun z => by
                    have h := conditionOf_c _ _ s u k2 _ (R2.out.ext (hx.trans z.ext)) (R4.out.ext (hx.trans z.ext)) HS.out HWU.out.1 hlt2
                    rwa [HY1.out] at h)
                  go_wp2_with fail
                  refine wp_region_quiet_ext (by kernel_rfl) (by kernel_rfl) ?_
                  repeat (quiet_step ((first
                    | (go_at_call 75; with_reducible exact calls_ext (HC1.out _))
                    | (go_at_call 75; with_reducible exact calls_ext (HC2.out _)))))
                  refine wpQuiet_nil ?_
                  intro _ hw'
                  obtain ⟨⟨ws, us⟩, hw''⟩ := hw'
                  subst hw''
                  clear F0 F1 F2 F3 F4 F5 F6 F7 HC1 HC2
                  have xs := hx.trans us
                  have e1 := (b3.ext xs).cell 1 (by simp)
                  rcases hh : hasI u.vars (k2 : Int) with _ | _
                  · have HH := Lib.hid hh
                    by_cases hXY : X = Y
                    · have hq : (X != Y) = false := by simp [hXY]
                      have HX := Lib.hid (HNX.out (.inl hXY))
                      clear hXY hh
                      go_wp2_with fail
                      refine (containsI_b false _ u.vars (k2 : Int) _ HH.out (J1.out.ext xs)).mono ?_
                      rintro e w2 ⟨rfl, hw2⟩
                      rw [hw2]
                      go_wp2_with fail
                      refine (containsI_b false _ u.vars (k2 : Int) _ HH.out (J1.out.ext xs)).mono ?_
                      rintro e w3 ⟨rfl, hw3⟩
                      rw [hw3]
                      go_wp2
                      go_roundw
                      case rel => exact ⟨k2 + 1, by omega, by go_num, HX.out, xs⟩
                      case measure => simp [intOf]; omega
                    · have hq : (X != Y) = true := by simp [hXY]
                      have HB := Lib.hid (HNB.out (fun h => by rcases h with h | h; exact hXY h; have h1 := h.1; rw [hh] at h1; cases h1))
                      clear hXY hh
                      go_wp2_with fail
                      refine (containsI_b false _ u.vars (k2 : Int) _ HH.out (J1.out.ext xs)).mono ?_
                      rintro e w2 ⟨rfl, hw2⟩
                      rw [hw2]
                      go_wp2_with fail
                      refine (containsI_b false _ u.vars (k2 : Int) _ HH.out (J1.out.ext xs)).mono ?_
                      rintro e w3 ⟨rfl, hw3⟩
                      rw [hw3]
                      go_wp2
                      go_ret
                      exact ⟨ret_bool HB.out.symm, uu.trans xs⟩
                  · have HH := Lib.hid hh
                    by_cases hsb : SubV X Y
                    · have HX := Lib.hid (HNX.out (.inr ⟨hh, hsb⟩))
                      have hq3 : (bits .andNot .i64 X Y != 0) = false := by simp; exact (subV_not HRG.out).1 hsb
                      clear hh hsb
                      go_wp2_with fail
                      refine (containsI_b true _ u.vars (k2 : Int) _ HH.out (J1.out.ext xs)).mono ?_
                      rintro e w2 ⟨rfl, hw2⟩
                      rw [hw2]
                      go_wp2_with fail
                      refine (containsI_b true _ u.vars (k2 : Int) _ HH.out (J1.out.ext xs)).mono ?_
                      rintro e w3 ⟨rfl, hw3⟩
                      rw [hw3]
                      go_wp2
                      go_roundw
                      case rel => exact ⟨k2 + 1, by omega, by go_num, HX.out, xs⟩
                      case measure => simp [intOf]; omega
                    · have HB := Lib.hid (HNB.out (fun h => by rcases h with h | h; exact hsb (by rw [h] at HRG ⊢; exact subV_refl HRG.out); exact hsb h.2))
                      have hq3 : (bits .andNot .i64 X Y != 0) = true := by simp; exact fun h => hsb ((subV_not HRG.out).2 h)
                      clear hh hsb
                      go_wp2_with fail
                      refine (containsI_b true _ u.vars (k2 : Int) _ HH.out (J1.out.ext xs)).mono ?_
                      rintro e w2 ⟨rfl, hw2⟩
                      rw [hw2]
                      go_wp2
                      go_ret
                      exact ⟨ret_bool HB.out.symm, uu.trans xs⟩
                · have HPS : Hid (SetsP s t u) := Lib.hid (fun j hj => HJ.out j (by omega))
                  clear HJ
                  have xs := hx
                  have d3 := (b2.ext xs).cell 3 (by simp)
                  have e3 := (b3.ext xs).cell 3 (by simp)
                  have e1 := (b3.ext xs).cell 1 (by simp)
                  by_cases heq : B = D
                  · have hq : (B == D) = true := by simp [heq]
                    have HB := Lib.hid (folB_true (par := T.par) (s := s) (t := t) (u := u).2 ⟨HLO.out, HSM.out.2 (.inl heq), HPV.out, HPS.out⟩)
                    clear heq
                    go_wp2
                    go_ret
                    exact ⟨ret_bool HB.out.symm, uu.trans xs⟩
                  · have hq : (B == D) = false := by simp [heq]
                    by_cases hd : D = -1
                    · have hq2 : (D == -1) = true := by simp [hd]
                      rcases hh : hasI u.vars B with _ | _
                      · have HB := Lib.hid (folB_not (par := T.par) (s := s) (t := t) (u := u) (fun h => by rcases HSM.out.1 h.2.1 with h | h; exact heq h; have h2 := h.2; rw [hh] at h2; cases h2))
                        have HH := Lib.hid hh
                        clear hh heq hd
                        go_wp2_with fail
                        refine (containsI_b false _ u.vars B _ HH.out (J1.out.ext xs)).mono ?_
                        rintro e w2 ⟨rfl, hw2⟩
                        rw [hw2]
                        go_wp2
                        go_ret
                        exact ⟨ret_bool HB.out.symm, uu.trans xs⟩
                      · have HB := Lib.hid (folB_true (par := T.par) (s := s) (t := t) (u := u).2 ⟨HLO.out, HSM.out.2 (.inr ⟨hd, hh⟩), HPV.out, HPS.out⟩)
                        have HH := Lib.hid hh
                        clear hh heq hd
                        go_wp2_with fail
                        refine (containsI_b true _ u.vars B _ HH.out (J1.out.ext xs)).mono ?_
                        rintro e w2 ⟨rfl, hw2⟩
                        rw [hw2]
                        go_wp2
                        go_ret
                        exact ⟨ret_bool HB.out.symm, uu.trans xs⟩
                    · have hq2 : (D == -1) = false := by simp [hd]
                      have HB := Lib.hid (folB_not (par := T.par) (s := s) (t := t) (u := u) (fun h => by rcases HSM.out.1 h.2.1 with h | h; exact heq h; exact hd h.1))
                      clear heq hd
                      go_wp2
                      go_ret
                      exact ⟨ret_bool HB.out.symm, uu.trans xs⟩
          -- END cut more
end Go.Proofs.Ytolmmhdeebgglaa
