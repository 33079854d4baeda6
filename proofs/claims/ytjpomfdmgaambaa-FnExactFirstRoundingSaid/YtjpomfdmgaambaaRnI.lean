/- The network of roundings, the program's: roundingNetwork returns what rnT says. -/
import Derived.Test.YtjpomfdmgaambaaRnP
import Derived.BigRegion
import Derived.Deep.CutRange
import Derived.Deep.CutBlock
import Derived.Deep.RegionHeld3
import Derived.StillTailTactics
namespace Go.Proofs.Ytjpomfdmgaambaa
open Go.RowKit

theorem rnDown_c (v base : Int) (b0 : Nat) (w : World) (hc : w.cell? ⟨b0, 0, none⟩ = some (.int .i64 base)) (h0 : 0 ≤ v) (h1 : v ≤ 1000000) (h2 : 2 ≤ base) (h3 : base ≤ 100) :
    Calls Try.prog 69 #[.int .i64 v, .pointer (some ⟨b0, 0, none⟩)] w fun e w' => e = .returned (.int .i64 (dnV base v)) ∧ w = w' := by
  unfold dnV
  go_enter Try.func69, Try.ntmps69
  go_wp2
  go_ret
  exact ⟨rfl, rfl⟩
theorem rnUp_c (v base : Int) (b0 : Nat) (w : World) (hc : w.cell? ⟨b0, 0, none⟩ = some (.int .i64 base)) (h0 : 0 ≤ v) (h1 : v ≤ 1000000) (h2 : 2 ≤ base) (h3 : base ≤ 100) :
    Calls Try.prog 70 #[.int .i64 v, .pointer (some ⟨b0, 0, none⟩)] w fun e w' => e = .returned (.int .i64 (upV base v)) ∧ w = w' := by
  unfold upV
  go_enter Try.func70, Try.ntmps70
  go_wp2
  go_ret
  exact ⟨rfl, rfl⟩
theorem rnDown_s (v base : Int) (b0 : Nat) (w : World) (hc : w.cell? ⟨b0, 0, none⟩ = some (.int .i64 base)) (h0 : 0 ≤ v) (h1 : v ≤ 1000000) (h2 : 2 ≤ base) (h3 : base ≤ 100) :
    Calls Try.prog 69 #[.int .i64 v, .pointer (some ⟨b0, 0, none⟩)] w fun e w' => e = .returned (.int .i64 (dnV base v)) ∧ w' = w := (rnDown_c v base b0 w hc h0 h1 h2 h3).mono fun _ _ h => ⟨h.1, h.2.symm⟩
theorem rnUp_s (v base : Int) (b0 : Nat) (w : World) (hc : w.cell? ⟨b0, 0, none⟩ = some (.int .i64 base)) (h0 : 0 ≤ v) (h1 : v ≤ 1000000) (h2 : 2 ≤ base) (h3 : base ≤ 100) :
    Calls Try.prog 70 #[.int .i64 v, .pointer (some ⟨b0, 0, none⟩)] w fun e w' => e = .returned (.int .i64 (upV base v)) ∧ w' = w := (rnUp_c v base b0 w hc h0 h1 h2 h3).mono fun _ _ h => ⟨h.1, h.2.symm⟩

set_option maxRecDepth 100000 in
set_option maxHeartbeats 12800000 in
theorem roundingNetwork_c (v1 : Value) (x : List (List Int)) (n m : Nat) (base : Int) (w : World) (h1 : Grid w v1 x) (hn : x.length = n) (hM : MatOk x m) (hE : ∀ k l, k < n → l < m → 0 ≤ ix (rowAt x k) l ∧ ix (rowAt x k) l ≤ 10000) (h8 : 1 ≤ n ∧ n ≤ 7 ∧ 1 ≤ m ∧ m ≤ 7) (hb2 : 2 ≤ base) (hb3 : base ≤ 100) :
    Calls Try.prog 42 #[v1, .int .i64 base] w fun e w' => ∃ v', e = .returned v' ∧ TrO w.heap.size w'.heap.size w' v' (rnT x n m base) ∧ Ext w w' := by
  have H1 := Lib.hid h1
  have HM := Lib.hid hM
  have HE := Lib.hid hE; clear hE
  have hm := hM.row 0 (by omega)
  have HROW := Lib.hid (fun k (hk : k < n) => hM.row k (by omega))
  clear hM
  obtain ⟨ax, cx, rfl, p1, p2, p3⟩ := h1
  have GX := Lib.hid p3; clear p3
  have x0 : (0 : Int) < (n : Int) := by omega
  obtain ⟨b, o, ar0, cr0, rfl, hc0, q1, q2, q3⟩ := GX.out.at0 (by omega)
  rw [hm] at hc0 q1
  rw [hn] at H1 ⊢
  have HN := Lib.hid hn; clear hn
  have HM0 := Lib.hid hm; clear hm
  clear q3
  have u0 := ((Ext.refl w).alloc (.cells #[.int .i64 base] 3)).alloc (.cells #[.slice none 0 0, .slice none 0 0, .slice none 0 0, .slice none 0 0] 30)
  have hc1 := Ext.cell u0 hc0
  have hmk1 := run_make_row' (P := Try.prog) 22 3 (.int .i64 0) 8 Try.underlying22 info_int rfl .i64 .i64 (n + 1) (by omega) (by omega)
  have hmk2 := run_make_row' (P := Try.prog) 22 3 (.int .i64 0) 8 Try.underlying22 info_int rfl .i64 .i64 (m + 1) (by omega) (by omega)
  have hmk3 := run_make_row' (P := Try.prog) 23 22 (.slice none 0 0) 24 Try.underlying23 info_ints rfl .i64 .i64 (n + 1) (by omega) (by omega)
  simp only [Int.natCast_add, Int.natCast_one] at hmk1 hmk2 hmk3
  go_enter Try.func42, Try.ntmps42
  go_wp2_with fail
  go_quiet (fail)
  go_wp2_with fail
  have wn1 : IntKind.i64.wrap ((n : Int) + 1) = (n : Int) + 1 := IntWalk.i64_in _ (by omega)
  have wm1 : IntKind.i64.wrap ((m : Int) + 1) = (m : Int) + 1 := IntWalk.i64_in _ (by omega)
  obtain ⟨wq, hwq⟩ : ∃ wq : World, wq = (((w.alloc (.cells #[.int .i64 base] 3)).alloc (.cells #[.slice none 0 0, .slice none 0 0, .slice none 0 0, .slice none 0 0] 30)).drewN nq) := ⟨_, rfl⟩
  rw [← hwq]
  have hcq : wq.cell? ⟨b, o, none⟩ = some (.slice ar0 m cr0) := by rw [hwq]; exact hc1
  have hbq : wq.cell? ⟨w.heap.size, 0, none⟩ = some (.int .i64 base) := by
    rw [hwq]
    exact (((Box.new w 3 #[.int .i64 base] rfl).alloc _).drewN nq).cell 0 (by simp)
  have huq : Ext w wq := by rw [hwq]; exact u0.drewN nq
  have hrq : Box wq (w.heap.size + 1) 30 #[.slice none 0 0, .slice none 0 0, .slice none 0 0, .slice none 0 0] := by
    rw [hwq]
    exact (Box.new _ 30 #[.slice none 0 0, .slice none 0 0, .slice none 0 0, .slice none 0 0] (by simp)).drewN nq
  clear hwq u0 hc0 hc1
  go_cut [9] from 30 to 42 (fun s9 wx => ∃ (B n2 n3 : Nat) (bk : Nat → Nat), s9 = .pointer (some ⟨B, 0, none⟩) ∧ RnS wq n m 0 (rnG x n m base) (fun _ _ => False) B n2 n3 bk wx)
  case first =>
    -- BEGIN cut make
    refine wp_region_any (by kernel_rfl) ?_
    refine wpAny_takeD (i := 0) (v := .int .i64 (n : Int)) (some 30) rfl rfl (by kernel_rfl) (by kernel_rfl) (by kernel_rfl) (fun _ _ _ h => h) (Or.inl ⟨by rfl, fun w => ?_⟩) ?_
    · go_simp
    simp only [Act.put, List.setIfInBounds_toArray, List.set_cons_zero, List.set_cons_succ]
    refine wpAny_takeD (i := 1) (v := .int .i64 ((n : Int) + 1)) (some 31) rfl rfl (by kernel_rfl) (by kernel_rfl) (by kernel_rfl) (fun _ _ _ h => h) (Or.inl ⟨by rfl, fun w => ?_⟩) ?_
    · go_simp
    simp only [Act.put, List.setIfInBounds_toArray, List.set_cons_zero, List.set_cons_succ]
    refine wpAny_takeD (i := 3) (v := .int .i64 (m : Int)) (some 33) rfl rfl (by kernel_rfl) (by kernel_rfl) (by kernel_rfl) (fun _ _ _ h => h) (Or.inl ⟨by rfl, fun w => ?_⟩) ?_
    · go_simp
    simp only [Act.put, List.setIfInBounds_toArray, List.set_cons_zero, List.set_cons_succ]
    refine wpAny_takeD (i := 4) (v := .int .i64 ((m : Int) + 1)) (some 34) rfl rfl (by kernel_rfl) (by kernel_rfl) (by kernel_rfl) (fun _ _ _ h => h) (Or.inl ⟨by rfl, fun w => ?_⟩) ?_
    · go_simp
    simp only [Act.put, List.setIfInBounds_toArray, List.set_cons_zero, List.set_cons_succ]
    refine wpAny_takeD (i := 6) (v := .int .i64 (n : Int)) (some 36) rfl rfl (by kernel_rfl) (by kernel_rfl) (by kernel_rfl) (fun _ _ _ h => h) (Or.inl ⟨by rfl, fun w => ?_⟩) ?_
    · go_simp
    simp only [Act.put, List.setIfInBounds_toArray, List.set_cons_zero, List.set_cons_succ]
    refine wpAny_takeD (i := 7) (v := .int .i64 ((n : Int) + 1)) (some 37) rfl rfl (by kernel_rfl) (by kernel_rfl) (by kernel_rfl) (fun _ _ _ h => h) (Or.inl ⟨by rfl, fun w => ?_⟩) ?_
    · go_simp
    simp only [Act.put, List.setIfInBounds_toArray, List.set_cons_zero, List.set_cons_succ]
    refine wpAny_takeD (i := 9) (v := .int .i64 (n : Int)) (some 39) rfl rfl (by kernel_rfl) (by kernel_rfl) (by kernel_rfl) (fun _ _ _ h => h) (Or.inl ⟨by rfl, fun w => ?_⟩) ?_
    · go_simp
    simp only [Act.put, List.setIfInBounds_toArray, List.set_cons_zero, List.set_cons_succ]
    refine wpAny_takeD (i := 10) (v := .int .i64 ((n : Int) + 1)) (some 40) rfl rfl (by kernel_rfl) (by kernel_rfl) (by kernel_rfl) (fun _ _ _ h => h) (Or.inl ⟨by rfl, fun w => ?_⟩) ?_
    · go_simp
    simp only [Act.put, List.setIfInBounds_toArray, List.set_cons_zero, List.set_cons_succ]
    refine makes5 32 35 38 41 9 42 2 5 8 11 13 12 (.cells (madeCells #[.int .i64 0] (n + 1)) 3) (.cells (madeCells #[.int .i64 0] (m + 1)) 3) (.cells (madeCells #[.slice none 0 0] (n + 1)) 22) (.cells (madeCells #[.slice none 0 0] (n + 1)) 22) (.cells #[.slice none 0 0, .slice none 0 0, .slice none 0 0, .slice none 0 0] 30) (fun c => .slice (some ⟨c, 0, none⟩) (n + 1) (n + 1)) (fun c => .slice (some ⟨c, 0, none⟩) (m + 1) (m + 1)) (fun c => .slice (some ⟨c, 0, none⟩) (n + 1) (n + 1)) (fun c => .slice (some ⟨c, 0, none⟩) (n + 1) (n + 1)) (fun c => .pointer (some ⟨c, 0, none⟩)) (fun a b c d => .agg #[a, b, c, d])
      (by simp only [A5, Act.put, List.setIfInBounds_toArray, List.set_cons_zero, List.set_cons_succ]) (by kernel_rfl)
      (fun _ _ _ _ _ _ => by kernel_rfl) (fun _ _ _ _ _ _ => by kernel_rfl) (fun _ _ _ _ _ _ => by kernel_rfl) (fun _ _ _ _ _ _ => by kernel_rfl) (fun _ _ _ _ _ _ => by kernel_rfl) (fun _ _ _ _ _ _ => by kernel_rfl)
      (by intro b0 b1 b2 b3 b4 c; cases b0 <;> cases b1 <;> cases b2 <;> cases b3 <;> cases b4 <;> cases c <;> decide +kernel) (by intro b0 b1 b2 b3 b4 c; cases b0 <;> cases b1 <;> cases b2 <;> cases b3 <;> cases b4 <;> cases c <;> decide +kernel) ?_ ?_ ?_ ?_ ?_ ?_ ?_
    · intro x0 x1 x2 x3 x4 y K w' hK
      refine wpOp_stepD (some 32) rfl rfl ?_ ((fun c => .slice (some ⟨c, 0, none⟩) (n + 1) (n + 1)) w'.heap.size) (w'.alloc (.cells (madeCells #[.int .i64 0] (n + 1)) 3)) ?_ ?_
      · simp only [A5, Act.put, List.setIfInBounds_toArray, List.set_cons_zero, List.set_cons_succ]
        rfl
      · simp only [A5, Act.put, List.setIfInBounds_toArray, List.set_cons_zero, List.set_cons_succ]
        go_simp
      · simp only [A5, Act.put, List.setIfInBounds_toArray, List.set_cons_zero, List.set_cons_succ] at hK ⊢
        exact hK
    · intro x0 x1 x2 x3 x4 y K w' hK
      refine wpOp_stepD (some 35) rfl rfl ?_ ((fun c => .slice (some ⟨c, 0, none⟩) (m + 1) (m + 1)) w'.heap.size) (w'.alloc (.cells (madeCells #[.int .i64 0] (m + 1)) 3)) ?_ ?_
      · simp only [A5, Act.put, List.setIfInBounds_toArray, List.set_cons_zero, List.set_cons_succ]
        rfl
      · simp only [A5, Act.put, List.setIfInBounds_toArray, List.set_cons_zero, List.set_cons_succ]
        go_simp
      · simp only [A5, Act.put, List.setIfInBounds_toArray, List.set_cons_zero, List.set_cons_succ] at hK ⊢
        exact hK
    · intro x0 x1 x2 x3 x4 y K w' hK
      refine wpOp_stepD (some 38) rfl rfl ?_ ((fun c => .slice (some ⟨c, 0, none⟩) (n + 1) (n + 1)) w'.heap.size) (w'.alloc (.cells (madeCells #[.slice none 0 0] (n + 1)) 22)) ?_ ?_
      · simp only [A5, Act.put, List.setIfInBounds_toArray, List.set_cons_zero, List.set_cons_succ]
        rfl
      · simp only [A5, Act.put, List.setIfInBounds_toArray, List.set_cons_zero, List.set_cons_succ]
        go_simp
      · simp only [A5, Act.put, List.setIfInBounds_toArray, List.set_cons_zero, List.set_cons_succ] at hK ⊢
        exact hK
    · intro x0 x1 x2 x3 x4 y K w' hK
      refine wpOp_stepD (some 41) rfl rfl ?_ ((fun c => .slice (some ⟨c, 0, none⟩) (n + 1) (n + 1)) w'.heap.size) (w'.alloc (.cells (madeCells #[.slice none 0 0] (n + 1)) 22)) ?_ ?_
      · simp only [A5, Act.put, List.setIfInBounds_toArray, List.set_cons_zero, List.set_cons_succ]
        rfl
      · simp only [A5, Act.put, List.setIfInBounds_toArray, List.set_cons_zero, List.set_cons_succ]
        go_simp
      · simp only [A5, Act.put, List.setIfInBounds_toArray, List.set_cons_zero, List.set_cons_succ] at hK ⊢
        exact hK
    · intro x0 x1 x2 x3 x4 y K w' hK
      refine wpOp_stepD (some 9) rfl rfl ?_ ((fun c => .pointer (some ⟨c, 0, none⟩)) w'.heap.size) (w'.alloc (.cells #[.slice none 0 0, .slice none 0 0, .slice none 0 0, .slice none 0 0] 30)) ?_ ?_
      · simp only [A5, Act.put, List.setIfInBounds_toArray, List.set_cons_zero, List.set_cons_succ]
        rfl
      · simp only [A5, Act.put, List.setIfInBounds_toArray, List.set_cons_zero, List.set_cons_succ]
        go_simp
      · simp only [A5, Act.put, List.setIfInBounds_toArray, List.set_cons_zero, List.set_cons_succ] at hK ⊢
        exact hK
    · intro n0 n1 n2 n3 x4 y K w' hK
      refine wpOp_stepD (some 42) rfl rfl ?_ (.agg #[((fun c => .slice (some ⟨c, 0, none⟩) (n + 1) (n + 1)) n0), ((fun c => .slice (some ⟨c, 0, none⟩) (m + 1) (m + 1)) n1), ((fun c => .slice (some ⟨c, 0, none⟩) (n + 1) (n + 1)) n2), ((fun c => .slice (some ⟨c, 0, none⟩) (n + 1) (n + 1)) n3)]) w' ?_ ?_
      · simp only [A5, Act.put, List.setIfInBounds_toArray, List.set_cons_zero, List.set_cons_succ]
        rfl
      · simp only [A5, Act.put, List.setIfInBounds_toArray, List.set_cons_zero, List.set_cons_succ]
        go_simp
      · simp only [A5, Act.put, List.setIfInBounds_toArray, List.set_cons_zero, List.set_cons_succ] at hK ⊢
        exact hK
    · intro n0 n1 n2 n3 n4 w' he g0 g1 g2 g3 g4 hne
      simp only [A5, Act.put, List.setIfInBounds_toArray, List.set_cons_zero, List.set_cons_succ]
      have hb4 : Box w' n4 30 #[.slice none 0 0, .slice none 0 0, .slice none 0 0, .slice none 0 0] := g4.2.2
      have hb5 := put4_box hb4 (.slice (some ⟨n0, 0, none⟩) (n + 1) (n + 1)) (.slice (some ⟨n1, 0, none⟩) (m + 1) (m + 1)) (.slice (some ⟨n2, 0, none⟩) (n + 1) (n + 1)) (.slice (some ⟨n3, 0, none⟩) (n + 1) (n + 1))
      have e0 := hb4.cell 0 (by simp)
      have e1 := hb4.cell 1 (by simp)
      have e2 := hb4.cell 2 (by simp)
      have e3 := hb4.cell 3 (by simp)
      have f0 := hb4.free 0
      have f1 := hb4.free 1
      have f2 := hb4.free 2
      have f3 := hb4.free 3
      refine wpAny_last (i := 14) (by kernel_rfl) (by kernel_rfl) (wpOp_skipD rfl rfl (by rfl) (put4 w' n4 (.slice (some ⟨n0, 0, none⟩) (n + 1) (n + 1)) (.slice (some ⟨n1, 0, none⟩) (m + 1) (m + 1)) (.slice (some ⟨n2, 0, none⟩) (n + 1) (n + 1)) (.slice (some ⟨n3, 0, none⟩) (n + 1) (n + 1))) ?_ ?_)
      · go_simp
      · dsimp only [Exit.then]
        obtain ⟨n01, n02, n03, n04, n12, n13, n14, n23, n24, n34⟩ := hne
        obtain ⟨bk, hR⟩ := RnS.start (g := rnG x n m base) (((Ext.refl wq).drew.trans he).put4 g4.1 _ _ _ _) hb5 ((put4_other n04 _ _ _ _).trans g0.2.2) ((put4_other n14 _ _ _ _).trans g1.2.2) ((put4_other n24 _ _ _ _).trans g2.2.2) ((put4_other n34 _ _ _ _).trans g3.2.2) ⟨g0.1, g1.1, g2.1, g3.1, g4.1⟩ n01 n23
        clear he g0 g1 g2 g3 g4 n01 n02 n03 n04 n12 n13 n14 n23 n24 n34 hb4 hb5 e0 e1 e2 e3 f0 f1 f2 f3
        go_step
        go_meet
        exact ⟨n4, n2, n3, bk, rfl, hR⟩
    -- END cut make
  case rest =>
    obtain ⟨B, n2, n3, bk, rfl, hR⟩ := hcut
    obtain ⟨wa, rfl⟩ : ∃ wa : World, wa = wc := ⟨_, rfl⟩
    have e2 := hR.tr.cell 2 (by simp)
    have HR := Lib.hid hR; clear hR
    go_upto_block 0 with fail
    go_cut [] from 43 to 63 (fun wx => ∃ bk : Nat → Nat, RnS wq n m (n + 1) (rnG x n m base) (fun _ _ => False) B n2 n3 bk wx)
    case first =>
      -- BEGIN cut rows
      clear e2
      go_wp2_with fail
      go_loopw [46] (fun v wr => ∃ (d : Nat) (bk : Nat → Nat), v = .int .i64 (d : Int) ∧ RnS wq n m d (rnG x n m base) (fun _ _ => False) B n2 n3 bk wr) (fun v _ => n + 1 - (intOf v).toNat)
      case atStart => exact ⟨0, bk, rfl, HR.out⟩
      case round =>
        clear HR
        obtain ⟨d, bk', rfl, hR⟩ := hrel
        obtain ⟨wo, rfl⟩ : ∃ wo : World, wo = wr := ⟨_, rfl⟩
        have hdn := hR.dn
        by_cases hd : d < n + 1
        · have e2 := hR.tr.cell 2 (by simp)
          have e3 := hR.tr.cell 3 (by simp)
          have hd1 : (d : Int) < (n : Int) + 1 := by omega
          have hd2 : (0 : Int) ≤ (d : Int) := by omega
          have wd1 : IntKind.i64.wrap ((d : Int) + 1) = (d : Int) + 1 := IntWalk.i64_in _ (by omega)
          have hne := hR.ne
          have hne' := hR.ne.symm
          have l2 := hR.lt2
          have l3 := hR.lt3
          have q2 := hR.nilLo hd
          have q3 := hR.nilHi hd
          have HR := Lib.hid hR; clear hR
          go_wp2_with fail
          have nT := HR.out.neT
          have hMK : ∀ x, Upd (fun z => z = n2 ∨ z = n3) wo x → (x.cell? ⟨B, 2, none⟩ = some (.slice (some ⟨n2, 0, none⟩) (n + 1) (n + 1)) ∧ x.cell? ⟨B, 3, none⟩ = some (.slice (some ⟨n3, 0, none⟩) (n + 1) (n + 1))) := fun x u => ⟨u.cell e2 (by show ¬ (B = n2 ∨ B = n3); omega), u.cell e3 (by show ¬ (B = n2 ∨ B = n3); omega)⟩
          have MK := Lib.hid hMK; clear hMK
          have eW := (((Ext.refl wo).drew).alloc (.cells (madeCells #[.int .i64 0] (m + 1)) 3)).alloc (.cells (madeCells #[.int .i64 0] (m + 1)) 3)
          have kA := eW.cell q2.1
          have kC := eW.cell q3.1
          have kB : (((wo.drew).alloc (.cells (madeCells #[.int .i64 0] (m + 1)) 3)).alloc (.cells (madeCells #[.int .i64 0] (m + 1)) 3)).frozen? ⟨n2, d, none⟩ = false := by have := q2.2; unfold World.frozen? at this ⊢; rw [eW.block l2]; exact this
          have kD : (((wo.drew).alloc (.cells (madeCells #[.int .i64 0] (m + 1)) 3)).alloc (.cells (madeCells #[.int .i64 0] (m + 1)) 3)).frozen? ⟨n3, d, none⟩ = false := by have := q3.2; unfold World.frozen? at this ⊢; rw [eW.block l3]; exact this
          clear eW
          go_region_held3 (fun x => x.cell? ⟨B, 2, none⟩ = some (.slice (some ⟨n2, 0, none⟩) (n + 1) (n + 1)) ∧ x.cell? ⟨B, 3, none⟩ = some (.slice (some ⟨n3, 0, none⟩) (n + 1) (n + 1)))
            (first | exact MK.out _ (Upd.refl _).drew | exact MK.out _ ((Upd.refl _).alloc _).drew | exact MK.out _ (((Upd.refl _).alloc _).alloc _).drew | exact MK.out _ (((Upd.refl _).setCell _ (fun _ => .inl rfl)).alloc _).drew | exact MK.out _ ((((Upd.refl _).setCell _ (fun _ => .inl rfl)).alloc _).alloc _).drew | exact MK.out _ (((((Upd.refl _).setCell _ (fun _ => .inl rfl)).setCell _ (fun _ => .inr rfl)).alloc _).alloc _).drew)
            (fail)
          all_goals
            clear kA kB kC kD q2 q3 e2 e3
            have HST := Lib.hid (HR.out.addRow2 hd (.inl ⟨rfl, rfl⟩) (fun _ _ hf => hf.elim))
            have HST2 := Lib.hid (HR.out.addRow2 hd (.inr ⟨rfl, rfl⟩) (fun _ _ hf => hf.elim))
            clear HR
            go_wp2
            go_roundw
            case rel => first | (obtain ⟨bk2, h2⟩ := HST.out; exact ⟨d + 1, bk2, by go_num, h2⟩) | (obtain ⟨bk2, h2⟩ := HST2.out; exact ⟨d + 1, bk2, by go_num, h2⟩)
            case measure => simp [intOf]; omega
        · have hde : d = n + 1 := by omega
          subst hde
          have hd1 : ¬ ((n : Int) + 1 < (n : Int) + 1) := by omega
          have HR := Lib.hid hR; clear hR
          go_wp2_with fail
          go_meet
          exact ⟨bk', HR.out⟩
      -- END cut rows
    case rest =>
      obtain ⟨bk2, hR⟩ := hcut
      clear HR e2
      obtain ⟨bk, rfl⟩ : ∃ b : Nat → Nat, b = bk2 := ⟨_, rfl⟩
      obtain ⟨wb, rfl⟩ : ∃ wb : World, wb = wc := ⟨_, rfl⟩
      have HR := Lib.hid hR; clear hR
      go_upto_block 2 with fail
      go_cut [] from 64 to 99 (fun wx => RnS wq n m (n + 1) (rnG x n m base) (rnD2 n m n 0) B n2 n3 bk wx)
      case first =>
        -- BEGIN cut cells
        go_wp2_with fail
        go_loopw [66] (fun v wr => ∃ (k : Nat), k ≤ n ∧ v = .int .i64 (k : Int) ∧ RnS wq n m (n + 1) (rnG x n m base) (rnD2 n m k 0) B n2 n3 bk wr) (fun v _ => n - (intOf v).toNat)
        case atStart => exact ⟨0, Nat.zero_le _, rfl, HR.out.congr (fun r k => iff_of_false (by unfold rnD2; omega) id)⟩
        case round =>
          clear HR
          obtain ⟨k, hk, rfl, hR⟩ := hrel
          obtain ⟨wo, rfl⟩ : ∃ wo : World, wo = wr := ⟨_, rfl⟩
          have HR := Lib.hid hR; clear hR
          by_cases hkn : k < n
          · obtain ⟨bx, ox, arx, crx, hax, hcx0, r1, r2, r3⟩ := GX.out.at_ (k := k) (by rw [HN.out]; exact hkn)
            cases hax
            rw [HROW.out k hkn] at hcx0 r1
            have hcx := Ext.cell (huq.trans HR.out.ext) hcx0
            clear hcx0
            have R3 := Lib.hid r3; clear r3
            have hk1 : (k : Int) < (n : Int) := by omega
            go_wp2_with fail
            go_loopw [73] (fun v wr => ∃ (l : Nat), l ≤ m ∧ v = .int .i64 (l : Int) ∧ RnS wq n m (n + 1) (rnG x n m base) (rnD2 n m k l) B n2 n3 bk wr) (fun v _ => m - (intOf v).toNat)
            case atStart => exact ⟨0, Nat.zero_le _, rfl, HR.out⟩
            case round =>
              clear HR hcx
              obtain ⟨l, hl, rfl, hR⟩ := hrel
              obtain ⟨wi, rfl⟩ : ∃ wi : World, wi = wr := ⟨_, rfl⟩
              have HR := Lib.hid hR; clear hR
              by_cases hlm : l < m
              · obtain ⟨be, oe, hae, hce0⟩ := R3.out l (by rw [HROW.out k hkn]; exact hlm)
                subst hae
                have hce := Ext.cell (huq.trans HR.out.ext) hce0
                clear hce0
                have hE1 := HE.out k l hkn hlm
                obtain ⟨V, hV⟩ : ∃ V, ix (rowAt x k) l = V := ⟨_, rfl⟩
                rw [hV] at hE1 hce
                have HV := Lib.hid hV; clear hV
                have hE2 := hE1.1
                have hE3 := hE1.2
                clear hE1
                have hl1 : (l : Int) < (m : Int) := by omega
                have lv1 : rnLive n (n + 1) k := by unfold rnLive; omega
                have lv2 : rnLive n (n + 1) (n + 1 + k) := by unfold rnLive; omega
                have ln1 : l < rnLen n m k := by unfold rnLen; split <;> omega
                have ln2 : l < rnLen n m (n + 1 + k) := by unfold rnLen; split <;> omega
                have e2 := HR.out.tr.cell 2 (by simp)
                have e3 := HR.out.tr.cell 3 (by simp)
                have g2 := HR.out.cellLo (i := k) (by omega)
                have g3 := HR.out.cellHi (i := k) (by omega)
                have gb := Ext.cell HR.out.ext hbq
                obtain ⟨y1, s1, f1, _, _⟩ := HR.out.cellR lv1 ln1
                obtain ⟨y2, s2, f2, _, _⟩ := HR.out.cellR lv2 ln2
                have nb1 := HR.out.neB lv1
                have nb2 := HR.out.neB lv2
                have n12 := HR.out.apart _ _ lv1 lv2 (by omega)
                have n12' := n12.symm
                have hbw := HR.out.new.2.2.2 _ lv1
                have hbw2 := HR.out.new.2.2.2 _ lv2
                have hszq : w.heap.size < wq.heap.size := World.block_lt_of_cell? _ _ hbq
                have hMK : ∀ z, Upd (fun c => c = bk k ∨ c = bk (n + 1 + k)) wi z → (z.cell? ⟨B, 2, none⟩ = some (.slice (some ⟨n2, 0, none⟩) (n + 1) (n + 1)) ∧ z.cell? ⟨B, 3, none⟩ = some (.slice (some ⟨n3, 0, none⟩) (n + 1) (n + 1)) ∧ z.cell? ⟨n2, k, none⟩ = some (.slice (some ⟨bk k, 0, none⟩) (m + 1) (m + 1)) ∧ z.cell? ⟨n3, k, none⟩ = some (.slice (some ⟨bk (n + 1 + k), 0, none⟩) (m + 1) (m + 1)) ∧ z.cell? ⟨w.heap.size, 0, none⟩ = some (.int .i64 base)) := fun z u =>
                  ⟨u.cell e2 (by show ¬ (B = _ ∨ B = _); omega), u.cell e3 (by show ¬ (B = _ ∨ B = _); omega), u.cell g2 (by show ¬ (n2 = _ ∨ n2 = _); omega), u.cell g3 (by show ¬ (n3 = _ ∨ n3 = _); omega), u.cell gb (by show ¬ (w.heap.size = _ ∨ w.heap.size = _); omega)⟩
                have MK := Lib.hid hMK; clear hMK
                have wl1 : IntKind.i64.wrap ((l : Int) + 1) = (l : Int) + 1 := IntWalk.i64_in _ (by omega)
                have HNB := Lib.hid (And.intro nb1 (And.intro nb2 hszq)); clear nb1 nb2 hszq hbw hbw2
                have HLV := Lib.hid (And.intro lv1 (And.intro lv2 (And.intro ln1 ln2))); clear lv1 lv2 ln1 ln2
                have HRX := HR; clear HR
                have hl0 : (0 : Int) ≤ (l : Int) := by omega
                have hk0 : (0 : Int) ≤ (k : Int) := by omega
                have hl2 : (l : Int) < (m : Int) + 1 := by omega
                have hk2 : (k : Int) < (n : Int) + 1 := by omega
                go_wp2_with fail
                go_region_held3 (fun z => z.cell? ⟨B, 2, none⟩ = some (.slice (some ⟨n2, 0, none⟩) (n + 1) (n + 1)) ∧ z.cell? ⟨B, 3, none⟩ = some (.slice (some ⟨n3, 0, none⟩) (n + 1) (n + 1)) ∧ z.cell? ⟨n2, k, none⟩ = some (.slice (some ⟨bk k, 0, none⟩) (m + 1) (m + 1)) ∧ z.cell? ⟨n3, k, none⟩ = some (.slice (some ⟨bk (n + 1 + k), 0, none⟩) (m + 1) (m + 1)) ∧ z.cell? ⟨w.heap.size, 0, none⟩ = some (.int .i64 base))
                  (first | exact MK.out _ (Upd.refl _).drew | exact MK.out _ ((Upd.refl _).setCell _ (fun _ => .inl rfl)).drew | exact MK.out _ ((Upd.refl _).setCell _ (fun _ => .inr rfl)).drew | exact MK.out _ (((Upd.refl _).setCell _ (fun _ => .inl rfl)).setCell _ (fun _ => .inr rfl)).drew | exact MK.out _ (((Upd.refl _).setCell _ (fun _ => .inr rfl)).setCell _ (fun _ => .inl rfl)).drew)
                  (first
                    | (go_at_call 69; refine (rnDown_c V base _ _ (by first | exact (MK.out _ (Upd.refl _).drew).2.2.2.2 | exact (MK.out _ ((Upd.refl _).setCell _ (fun _ => .inr rfl)).drew).2.2.2.2) hE2 (by omega) hb2 hb3).mono ?_; rintro e w' ⟨rfl, rfl⟩)
                    | (go_at_call 70; refine (rnUp_c V base _ _ (by first | exact (MK.out _ (Upd.refl _).drew).2.2.2.2 | exact (MK.out _ ((Upd.refl _).setCell _ (fun _ => .inl rfl)).drew).2.2.2.2) hE2 (by omega) hb2 hb3).mono ?_; rintro e w' ⟨rfl, rfl⟩))
                all_goals
                  have lv := HLV.out
                  have h2 := (HRX.out.put lv.1 lv.2.2.1 (u := dnV base V) (by rw [← HV.out]; exact rnG_lo hkn hlm) (D' := fun r' k' => rnD2 n m k l r' k' ∨ (r' = k ∧ k' = l)) (fun _ _ => Iff.rfl)).put lv.2.1 lv.2.2.2 (u := upV base V) (by rw [← HV.out]; exact rnG_hi hkn hlm) (D' := rnD2 n m k (l + 1)) (fun r' k' => by unfold rnD2; omega)
                  have H2 := Lib.hid (h2.of_ext (Ext.refl _).drew); clear h2 lv e2 e3 g2 g3 gb s1 s2 f1 f2 n12 n12' hce
                  go_wp2
                  go_roundw
                  case rel => exact ⟨l + 1, by omega, by go_num, H2.out⟩
                  case measure => simp [intOf]; omega
              · have hlm' : l = m := by omega
                subst hlm'
                have hl1 : ¬ ((l : Int) < (l : Int)) := by omega
                go_wp2_with fail
                go_roundw
                case rel => exact ⟨k + 1, by omega, by go_num, HR.out.congr (fun r k => by unfold rnD2; omega)⟩
                case measure => simp [intOf]; omega
          · have hkn' : k = n := by omega
            have hk1 : ¬ ((k : Int) < (n : Int)) := by omega
            have HK := Lib.hid hkn'; clear hkn'
            go_wp2_with fail
            go_meet
            have h2 := HR.out; rw [HK.out] at h2; exact h2
        -- END cut cells
      case rest =>
        have hR := hcut
        clear HR hcut
        obtain ⟨wd, rfl⟩ : ∃ wd : World, wd = wc := ⟨_, rfl⟩
        have HR := Lib.hid hR; clear hR
        have HLT := Lib.hid (fun r (hr : rnLive n (n + 1) r) => HR.out.ltr hr)
        have eN : (rowS x).length = n := by rw [rowS_length]; exact HN.out
        have eM : (colS x m).length = m := colS_length x m
        have EN := Lib.hid eN; clear eN
        have EM := Lib.hid eM; clear eM
        go_wp2_with fail
        refine (rowSums_c _ x _ (H1.out.ext (huq.trans HR.out.ext)) HM.out.tame).mono ?_
        rintro e w1 ⟨v1, rfl, o1, u1⟩
        have R1 := Lib.hid o1
        obtain ⟨a1, c1, rfl, z1, z2, qq⟩ := o1; clear qq
        rw [EN.out] at R1 z1 ⊢
        go_wp2_with fail
        refine (colSums_c _ x m _ (H1.out.ext ((huq.trans HR.out.ext).trans u1)) HM.out.tame (by have := HM.out.n1; omega) HM.out.row).mono ?_
        rintro e w3 ⟨v2, rfl, o2, u2⟩
        have C1 := Lib.hid o2
        obtain ⟨a2, c2, rfl, z3, z4, qq⟩ := o2; clear qq
        rw [EM.out] at C1 z3 ⊢
        have HR4 := Lib.hid (HR.out.of_ext (u1.trans u2))
        have HU12 := Lib.hid (And.intro u1 u2); clear u1 u2 HR
        go_upto_block 6 with fail
        go_cut [] from 104 to 132 (fun wx => RnS wq n m (n + 1) (rnG x n m base) (rnD4 n m n) B n2 n3 bk wx ∧ Upd (fun z => z < wd.heap.size) w3 wx)
        case first =>
          -- BEGIN cut rsums
          go_wp2_with fail
          go_loopw [106] (fun v wr => ∃ (k : Nat), k ≤ n ∧ v = .int .i64 (k : Int) ∧ RnS wq n m (n + 1) (rnG x n m base) (rnD4 n m k) B n2 n3 bk wr ∧ Upd (fun z => z < wd.heap.size) w3 wr) (fun v _ => n - (intOf v).toNat)
          case atStart => exact ⟨0, Nat.zero_le _, rfl, HR4.out.congr (fun r k => by unfold rnD4 rnD2; omega), Upd.refl _⟩
          case round =>
            clear HR4
            obtain ⟨k, hk, rfl, hR, hU⟩ := hrel
            obtain ⟨wo, rfl⟩ : ∃ wo : World, wo = wr := ⟨_, rfl⟩
            have HR := Lib.hid hR; clear hR
            have HU := Lib.hid hU; clear hU
            by_cases hkn : k < n
            · have hb := rowS_bd HM.out HE.out HN.out hkn
              have hb0 := hb.1
              have hb1 := hb.2
              clear hb
              have RR := ((R1.out.ext HU12.out.2).upd HU.out (fun hx hz => by have := ((R1.out.ext HU12.out.2).range hx).1; omega)).ints
              obtain ⟨ae, ce, hae, _, _, qq⟩ := RR
              rw [Value.slice.injEq] at hae
              obtain ⟨rfl, -, rfl⟩ := hae
              obtain ⟨be, oe, hae, hce⟩ := qq k (by rw [EN.out]; exact hkn)
              subst hae
              clear qq
              obtain ⟨V, hV⟩ : ∃ V, ix (rowS x) k = V := ⟨_, rfl⟩
              rw [hV] at hb0 hb1 hce
              have HV := Lib.hid hV; clear hV
              have hk1 : (k : Int) < (n : Int) := by omega
              have hk0 : (0 : Int) ≤ (k : Int) := by omega
              have hk2 : (k : Int) < (n : Int) + 1 := by omega
              have lv1 : rnLive n (n + 1) (2 * n + 2) := by unfold rnLive; omega
              have lv2 : rnLive n (n + 1) (n + 1 + k) := by unfold rnLive; omega
              have ln1 : k < rnLen n m (2 * n + 2) := by unfold rnLen; rw [if_pos rfl]; omega
              have ln2 : m < rnLen n m (n + 1 + k) := by unfold rnLen; split <;> omega
              have HLV := Lib.hid (And.intro lv1 (And.intro lv2 (And.intro ln1 ln2))); clear lv1 lv2 ln1 ln2
              have e0 := HR.out.tr.cell 0 (by simp)
              have gb := Ext.cell HR.out.ext hbq
              obtain ⟨yy, st, fr, _, _⟩ := HR.out.cellR HLV.out.1 HLV.out.2.2.1
              replace e0 := show wo.drew.cell? _ = _ from e0
              replace gb := show wo.drew.cell? _ = _ from gb
              replace st := show wo.drew.cell? _ = _ from st
              replace fr := show wo.drew.frozen? _ = _ from fr
              go_wp2_with fail
              refine wp_region_still_tail 7 (by kernel_rfl) (by kernel_rfl) ?_
              change wpStill _ _ wo.drew (fun a' => wpList _ _ _ _ a' wo.drew) _ _
              simp only [List.take_succ_cons, List.take_zero, List.drop_succ_cons, List.drop_zero]
              obtain ⟨wp, hwp⟩ : ∃ wp, wp = wo.drew := ⟨_, rfl⟩
              rw [← hwp] at e0 gb st fr ⊢
              have HWP := Lib.hid hwp; clear hwp
              repeat still_step
              still_call (rnUp_s V base _ _ gb hb0 (by omega) hb2 hb3)
              repeat still_step
              refine wpStill_nil ?_
              have H2 := Lib.hid ((HR.out.of_ext (show Ext wo wp by rw [HWP.out]; exact (Ext.refl _).drew)).put HLV.out.1 HLV.out.2.2.1 (u := upV base V) (by rw [← HV.out]; exact rnG_row hkn) (D' := fun r' k' => rnD4 n m k r' k' ∨ (r' = 2 * n + 2 ∧ k' = k)) (fun _ _ => Iff.rfl))
              have HU2 := Lib.hid ((HU.out.trans (show Upd _ wo wp by rw [HWP.out]; exact (Upd.refl _).drew)).setCell (a := ⟨bk (2 * n + 2), k, none⟩) (.int .i64 (upV base V)) (fun _ => HLT.out _ HLV.out.1))
              clear e0 gb
              obtain ⟨w5, hwn⟩ : ∃ wn, wn = wp.setCell ⟨bk (2 * n + 2), k, none⟩ (.int .i64 (upV base V)) := ⟨_, rfl⟩
              rw [← hwn] at H2 HU2
              go_wp2_with fail
              rw [← hwn]
              clear hwn st fr HWP
              clear HR HU
              have ub := upV_bd (base := base) hb0 hb1 hb2 hb3
              have db := dnV_bd (base := base) hb0 hb1 hb2
              have ub0 := ub.1
              have ub1 := ub.2
              have db0 := db.1
              have db1 := db.2
              clear ub db
              have hm0 : (0 : Int) ≤ (m : Int) := by omega
              have hm1 : (m : Int) < (m : Int) + 1 := by omega
              have e3 := H2.out.tr.cell 3 (by simp)
              have g3 := H2.out.cellHi (i := k) (by omega)
              have gb := Ext.cell H2.out.ext hbq
              obtain ⟨yy, st, fr, _, _⟩ := H2.out.cellR HLV.out.2.1 HLV.out.2.2.2
              replace e3 := show w5.drew.cell? _ = _ from e3
              replace g3 := show w5.drew.cell? _ = _ from g3
              replace gb := show w5.drew.cell? _ = _ from gb
              replace st := show w5.drew.cell? _ = _ from st
              replace fr := show w5.drew.frozen? _ = _ from fr
              go_wp2_with fail
              refine wp_region_still_tail 14 (by kernel_rfl) (by kernel_rfl) ?_
              change wpStill _ _ w5.drew (fun a' => wpList _ _ _ _ a' w5.drew) _ _
              simp only [List.take_succ_cons, List.take_zero, List.drop_succ_cons, List.drop_zero]
              obtain ⟨wp, hwp⟩ : ∃ wp, wp = w5.drew := ⟨_, rfl⟩
              rw [← hwp] at e3 g3 gb st fr ⊢
              have HWP := Lib.hid hwp; clear hwp
              repeat still_step
              still_call (rnUp_s V base _ _ gb hb0 (by omega) hb2 hb3)
              repeat still_step
              still_call (rnDown_s V base _ _ gb hb0 (by omega) hb2 hb3)
              repeat still_step
              refine wpStill_nil ?_
              have H3 := Lib.hid ((H2.out.of_ext (show Ext w5 wp by rw [HWP.out]; exact (Ext.refl _).drew)).put HLV.out.2.1 HLV.out.2.2.2 (u := upV base V - dnV base V) (by rw [← HV.out]; exact rnG_hiM hkn) (D' := rnD4 n m (k + 1)) (fun r' k' => by unfold rnD4 rnD2; omega))
              have HU3 := Lib.hid ((HU2.out.trans (show Upd _ w5 wp by rw [HWP.out]; exact (Upd.refl _).drew)).setCell (a := ⟨bk (n + 1 + k), m, none⟩) (.int .i64 (upV base V - dnV base V)) (fun _ => HLT.out _ HLV.out.2.1))
              clear e3 g3 gb
              obtain ⟨w6, hwn⟩ : ∃ wn, wn = wp.setCell ⟨bk (n + 1 + k), m, none⟩ (.int .i64 (upV base V - dnV base V)) := ⟨_, rfl⟩
              rw [← hwn] at H3 HU3
              go_wp2_with fail
              rw [← hwn]
              clear hwn st fr HWP
              go_wp2
              go_roundw
              case rel => exact ⟨k + 1, by omega, by go_num, H3.out, HU3.out⟩
              case measure => simp [intOf]; omega
            · have hkn' : k = n := by omega
              have hk1 : ¬ ((k : Int) < (n : Int)) := by omega
              have HK := Lib.hid hkn'; clear hkn'
              go_wp2_with fail
              go_meet
              have h2 := HR.out; rw [HK.out] at h2; exact ⟨h2, HU.out⟩
          -- END cut rsums
        case rest =>
          have hR := hcut.1
          have hU := hcut.2
          clear HR4 hcut
          obtain ⟨we, rfl⟩ : ∃ we : World, we = wc := ⟨_, rfl⟩
          have HR5 := Lib.hid hR; clear hR
          have HU5 := Lib.hid hU; clear hU
          go_upto_block 8 with fail
          go_cut [] from 133 to 161 (fun wx => RnS wq n m (n + 1) (rnG x n m base) (rnD5 n m m) B n2 n3 bk wx ∧ Upd (fun z => z < wd.heap.size) w3 wx)
          case first =>
            -- BEGIN cut csums
            go_wp2_with fail
            go_loopw [135] (fun v wr => ∃ (k : Nat), k ≤ m ∧ v = .int .i64 (k : Int) ∧ RnS wq n m (n + 1) (rnG x n m base) (rnD5 n m k) B n2 n3 bk wr ∧ Upd (fun z => z < wd.heap.size) w3 wr) (fun v _ => m - (intOf v).toNat)
            case atStart => exact ⟨0, Nat.zero_le _, rfl, HR5.out.congr (fun r k => by unfold rnD5 rnD4 rnD2; omega), HU5.out⟩
            case round =>
              clear HR5 HU5
              obtain ⟨k, hk, rfl, hR, hU⟩ := hrel
              obtain ⟨wo, rfl⟩ : ∃ wo : World, wo = wr := ⟨_, rfl⟩
              have HR := Lib.hid hR; clear hR
              have HU := Lib.hid hU; clear hU
              by_cases hkm : k < m
              · have hb := colS_bd HM.out HE.out HN.out hkm
                have hb0 := hb.1
                have hb1 := hb.2
                clear hb
                have RR := (C1.out.upd HU.out (fun hx hz => by have := (C1.out.range hx).1; have := HU12.out.1.size; omega)).ints
                obtain ⟨ae, ce, hae, _, _, qq⟩ := RR
                rw [Value.slice.injEq] at hae
                obtain ⟨rfl, -, rfl⟩ := hae
                obtain ⟨be, oe, hae, hce⟩ := qq k (by rw [EM.out]; exact hkm)
                subst hae
                clear qq
                obtain ⟨V, hV⟩ : ∃ V, ix (colS x m) k = V := ⟨_, rfl⟩
                rw [hV] at hb0 hb1 hce
                have HV := Lib.hid hV; clear hV
                have hk1 : (k : Int) < (m : Int) := by omega
                have hk0 : (0 : Int) ≤ (k : Int) := by omega
                have hk2 : (k : Int) < (m : Int) + 1 := by omega
                have hn0 : (0 : Int) ≤ (n : Int) := by omega
                have hn1 : (n : Int) < (n : Int) + 1 := by omega
                have lv1 : rnLive n (n + 1) (2 * n + 3) := by unfold rnLive; omega
                have lv2 : rnLive n (n + 1) (n + 1 + n) := by unfold rnLive; omega
                have ln1 : k < rnLen n m (2 * n + 3) := by unfold rnLen; rw [if_neg (by omega)]; omega
                have ln2 : k < rnLen n m (n + 1 + n) := by unfold rnLen; rw [if_neg (by omega)]; omega
                have HLV := Lib.hid (And.intro lv1 (And.intro lv2 (And.intro ln1 ln2))); clear lv1 lv2 ln1 ln2
                have e0 := HR.out.tr.cell 1 (by simp)
                have gb := Ext.cell HR.out.ext hbq
                obtain ⟨yy, st, fr, _, _⟩ := HR.out.cellR HLV.out.1 HLV.out.2.2.1
                replace e0 := show wo.drew.cell? _ = _ from e0
                replace gb := show wo.drew.cell? _ = _ from gb
                replace st := show wo.drew.cell? _ = _ from st
                replace fr := show wo.drew.frozen? _ = _ from fr
                go_wp2_with fail
                refine wp_region_still_tail 7 (by kernel_rfl) (by kernel_rfl) ?_
                change wpStill _ _ wo.drew (fun a' => wpList _ _ _ _ a' wo.drew) _ _
                simp only [List.take_succ_cons, List.take_zero, List.drop_succ_cons, List.drop_zero]
                obtain ⟨wp, hwp⟩ : ∃ wp, wp = wo.drew := ⟨_, rfl⟩
                rw [← hwp] at e0 gb st fr ⊢
                have HWP := Lib.hid hwp; clear hwp
                repeat still_step
                still_call (rnUp_s V base _ _ gb hb0 (by omega) hb2 hb3)
                repeat still_step
                refine wpStill_nil ?_
                have H2 := Lib.hid ((HR.out.of_ext (show Ext wo wp by rw [HWP.out]; exact (Ext.refl _).drew)).put HLV.out.1 HLV.out.2.2.1 (u := upV base V) (by rw [← HV.out]; exact rnG_col hkm) (D' := fun r' k' => rnD5 n m k r' k' ∨ (r' = 2 * n + 3 ∧ k' = k)) (fun _ _ => Iff.rfl))
                have HU2 := Lib.hid ((HU.out.trans (show Upd _ wo wp by rw [HWP.out]; exact (Upd.refl _).drew)).setCell (a := ⟨bk (2 * n + 3), k, none⟩) (.int .i64 (upV base V)) (fun _ => HLT.out _ HLV.out.1))
                clear e0 gb
                obtain ⟨w5, hwn⟩ : ∃ wn, wn = wp.setCell ⟨bk (2 * n + 3), k, none⟩ (.int .i64 (upV base V)) := ⟨_, rfl⟩
                rw [← hwn] at H2 HU2
                go_wp2_with fail
                rw [← hwn]
                clear hwn st fr HWP
                clear HR HU
                have ub := upV_bd (base := base) hb0 hb1 hb2 hb3
                have db := dnV_bd (base := base) hb0 hb1 hb2
                have ub0 := ub.1
                have ub1 := ub.2
                have db0 := db.1
                have db1 := db.2
                clear ub db
                have e3 := H2.out.tr.cell 3 (by simp)
                have g3 := H2.out.cellHi (i := n) (by omega)
                have gb := Ext.cell H2.out.ext hbq
                obtain ⟨yy, st, fr, _, _⟩ := H2.out.cellR HLV.out.2.1 HLV.out.2.2.2
                replace e3 := show w5.drew.cell? _ = _ from e3
                replace g3 := show w5.drew.cell? _ = _ from g3
                replace gb := show w5.drew.cell? _ = _ from gb
                replace st := show w5.drew.cell? _ = _ from st
                replace fr := show w5.drew.frozen? _ = _ from fr
                go_wp2_with fail
                refine wp_region_still_tail 14 (by kernel_rfl) (by kernel_rfl) ?_
                change wpStill _ _ w5.drew (fun a' => wpList _ _ _ _ a' w5.drew) _ _
                simp only [List.take_succ_cons, List.take_zero, List.drop_succ_cons, List.drop_zero]
                obtain ⟨wp, hwp⟩ : ∃ wp, wp = w5.drew := ⟨_, rfl⟩
                rw [← hwp] at e3 g3 gb st fr ⊢
                have HWP := Lib.hid hwp; clear hwp
                repeat still_step
                still_call (rnUp_s V base _ _ gb hb0 (by omega) hb2 hb3)
                repeat still_step
                still_call (rnDown_s V base _ _ gb hb0 (by omega) hb2 hb3)
                repeat still_step
                refine wpStill_nil ?_
                have H3 := Lib.hid ((H2.out.of_ext (show Ext w5 wp by rw [HWP.out]; exact (Ext.refl _).drew)).put HLV.out.2.1 HLV.out.2.2.2 (u := upV base V - dnV base V) (by rw [← HV.out]; exact rnG_hiN' hkm) (D' := rnD5 n m (k + 1)) (fun r' k' => by unfold rnD5 rnD4 rnD2; omega))
                have HU3 := Lib.hid ((HU2.out.trans (show Upd _ w5 wp by rw [HWP.out]; exact (Upd.refl _).drew)).setCell (a := ⟨bk (n + 1 + n), k, none⟩) (.int .i64 (upV base V - dnV base V)) (fun _ => HLT.out _ HLV.out.2.1))
                clear e3 g3 gb
                obtain ⟨w6, hwn⟩ : ∃ wn, wn = wp.setCell ⟨bk (n + 1 + n), k, none⟩ (.int .i64 (upV base V - dnV base V)) := ⟨_, rfl⟩
                rw [← hwn] at H3 HU3
                go_wp2_with fail
                rw [← hwn]
                clear hwn st fr HWP
                go_wp2
                go_roundw
                case rel => exact ⟨k + 1, by omega, by go_num, H3.out, HU3.out⟩
                case measure => simp [intOf]; omega
              · have hkm' : k = m := by omega
                have hk1 : ¬ ((k : Int) < (m : Int)) := by omega
                have HK := Lib.hid hkm'; clear hkm'
                go_wp2_with fail
                go_meet
                have h2 := HR.out; rw [HK.out] at h2; exact ⟨h2, HU.out⟩
            -- END cut csums
          case rest =>
            -- BEGIN cut end
            have hR := hcut.1
            have hU := hcut.2
            clear HR5 HU5 hcut
            obtain ⟨wf, rfl⟩ : ∃ wf : World, wf = wc := ⟨_, rfl⟩
            have HR := Lib.hid hR; clear hR
            have HU := Lib.hid hU; clear hU
            have RR := Lib.hid ((R1.out.ext HU12.out.2).upd HU.out (fun hx hz => by have := ((R1.out.ext HU12.out.2).range hx).1; omega)).ints
            have hb := all_bd HM.out HE.out HN.out
            have hb0 := hb.1
            have hb1 := hb.2
            clear hb
            obtain ⟨V, hV⟩ : ∃ V, (rowS x).sum = V := ⟨_, rfl⟩
            rw [hV] at hb0 hb1
            have HV := Lib.hid hV; clear hV
            go_wp2_with fail
            refine (total_c _ (rowS x) _ RR.out HM.out.sumOk).mono ?_
            rw [HV.out]
            rintro e wf ⟨rfl, rfl⟩
            have lv1 : rnLive n (n + 1) (2 * n + 2) := by unfold rnLive; omega
            have lv2 : rnLive n (n + 1) (n + 1 + n) := by unfold rnLive; omega
            have lv3 : rnLive n (n + 1) (2 * n + 3) := by unfold rnLive; omega
            have ln1 : n < rnLen n m (2 * n + 2) := by unfold rnLen; rw [if_pos rfl]; omega
            have ln2 : m < rnLen n m (n + 1 + n) := by unfold rnLen; rw [if_neg (by omega)]; omega
            have ln3 : m < rnLen n m (2 * n + 3) := by unfold rnLen; rw [if_neg (by omega)]; omega
            have HLV := Lib.hid (And.intro lv1 (And.intro lv2 (And.intro lv3 (And.intro ln1 (And.intro ln2 ln3))))); clear lv1 lv2 lv3 ln1 ln2 ln3
            have hm0 : (0 : Int) ≤ (m : Int) := by omega
            have hn0 : (0 : Int) ≤ (n : Int) := by omega
            have hm1 : (m : Int) < (m : Int) + 1 := by omega
            have hn1 : (n : Int) < (n : Int) + 1 := by omega
            have hn2 : (n : Int) ≤ (n : Int) + 1 := by omega
            have ub := upV_bd (base := base) hb0 hb1 hb2 hb3
            have db := dnV_bd (base := base) hb0 hb1 hb2
            have ub0 := ub.1
            have ub1 := ub.2
            have db0 := db.1
            have db1 := db.2
            clear ub db
            have e3 := HR.out.tr.cell 3 (by simp)
            have g3 := HR.out.cellHi (i := n) (by omega)
            have gb := Ext.cell HR.out.ext hbq
            obtain ⟨yy, st, fr, _, _⟩ := HR.out.cellR HLV.out.2.1 HLV.out.2.2.2.2.1
            replace e3 := show wf.drew.cell? _ = _ from e3
            replace g3 := show wf.drew.cell? _ = _ from g3
            replace gb := show wf.drew.cell? _ = _ from gb
            replace st := show wf.drew.cell? _ = _ from st
            replace fr := show wf.drew.frozen? _ = _ from fr
            go_wp2_with fail
            refine wp_region_still_tail 14 (by kernel_rfl) (by kernel_rfl) ?_
            change wpStill _ _ wf.drew (fun a' => wpList _ _ _ _ a' wf.drew) _ _
            simp only [List.take_succ_cons, List.take_zero, List.drop_succ_cons, List.drop_zero]
            obtain ⟨wp, hwp⟩ : ∃ wp, wp = wf.drew := ⟨_, rfl⟩
            rw [← hwp] at e3 g3 gb st fr ⊢
            have HWP := Lib.hid hwp; clear hwp
            repeat still_step
            still_call (rnUp_s V base _ _ gb hb0 (by omega) hb2 hb3)
            repeat still_step
            still_call (rnDown_s V base _ _ gb hb0 (by omega) hb2 hb3)
            repeat still_step
            refine wpStill_nil ?_
            have H2 := Lib.hid ((HR.out.of_ext (show Ext wf wp by rw [HWP.out]; exact (Ext.refl _).drew)).put HLV.out.2.1 HLV.out.2.2.2.2.1 (u := upV base V - dnV base V) (by rw [← HV.out]; exact rnG_hiNM') (D' := rnD6 n m) (fun r' k' => by unfold rnD6; rw [show n + 1 + n = 2 * n + 1 by omega]))
            have HU2 := Lib.hid ((HU.out.trans (show Upd _ wf wp by rw [HWP.out]; exact (Upd.refl _).drew)).setCell (a := ⟨bk (n + 1 + n), m, none⟩) (.int .i64 (upV base V - dnV base V)) (fun _ => HLT.out _ HLV.out.2.1))
            clear e3 g3 gb
            obtain ⟨w7, hwn⟩ : ∃ wn, wn = wp.setCell ⟨bk (n + 1 + n), m, none⟩ (.int .i64 (upV base V - dnV base V)) := ⟨_, rfl⟩
            rw [← hwn] at H2 HU2
            go_wp2_with fail
            rw [← hwn]
            clear hwn st fr HWP
            clear HR HU
            obtain ⟨SC, hSC⟩ : ∃ S, (upC x m base).sum = S := ⟨_, rfl⟩
            have sc := upC_sum HM.out HE.out HN.out hb2 hb3
            rw [hSC] at sc
            have sc0 := sc.1
            have sc1 := sc.2
            clear sc
            have HSC := Lib.hid hSC; clear hSC
            have e0 := H2.out.tr.cell 0 (by simp)
            have e1 := H2.out.tr.cell 1 (by simp)
            have gb := Ext.cell H2.out.ext hbq
            obtain ⟨yy, st, fr, _, _⟩ := H2.out.cellR HLV.out.1 HLV.out.2.2.2.1
            have QC := Lib.hid (And.intro (show Ints w7.drew (.slice (some ⟨bk (2 * n + 3), 0, none⟩) (m + 1) (m + 1)) (upC x m base ++ [0]) from by
              have := H2.out.reads (r := 2 * n + 3) (q := m + 1) HLV.out.2.2.1 (xs := upC x m base ++ [0]) (by simp [upC_length]) HLV.out.2.2.2.2.2 (fun k hk => by
                by_cases hkm : k < m
                · rw [ix_append_left (by rw [upC_length]; exact hkm), ix_upC hkm]
                  exact ⟨fun _ => rnG_col hkm, fun hd => absurd (by unfold rnD6 rnD5; exact .inl (.inr (.inl ⟨rfl, hkm⟩))) hd⟩
                · have e : k = (upC x m base).length := by rw [upC_length]; omega
                  rw [e, ix_append_len]
                  exact ⟨fun hd => by unfold rnD6 rnD5 rnD4 rnD2 at hd; rw [upC_length] at hd; omega, fun _ => rfl⟩) (by unfold rnLen; rw [if_neg (by omega)]; omega)
              rw [show rnLen n m (2 * n + 3) = m + 1 by unfold rnLen; rw [if_neg (by omega)]] at this
              exact this) (upC_ok0 HM.out HE.out HN.out hb2 hb3))
            replace e0 := show w7.drew.cell? _ = _ from e0
            replace e1 := show w7.drew.cell? _ = _ from e1
            replace gb := show w7.drew.cell? _ = _ from gb
            replace st := show w7.drew.cell? _ = _ from st
            replace fr := show w7.drew.frozen? _ = _ from fr
            go_wp2_with fail
            refine wp_region_still_tail 11 (by kernel_rfl) (by kernel_rfl) ?_
            change wpStill _ _ w7.drew (fun a' => wpList _ _ _ _ a' w7.drew) _ _
            simp only [List.take_succ_cons, List.take_zero, List.drop_succ_cons, List.drop_zero]
            obtain ⟨wp, hwp⟩ : ∃ wp, wp = w7.drew := ⟨_, rfl⟩
            rw [← hwp] at e0 e1 gb st fr ⊢
            have QC := show Hid (Ints wp _ _ ∧ _) from hwp ▸ QC
            have HWP := Lib.hid hwp; clear hwp
            repeat still_step
            still_call (show Calls Try.prog _ #[_] wp (fun e w'' => e = .returned (.int .i64 SC) ∧ w'' = wp) from by rw [← HSC.out, ← upC_sum0]; exact total_c _ _ _ QC.out.1 QC.out.2)
            repeat still_step
            still_call (rnDown_s V base _ _ gb hb0 (by omega) hb2 hb3)
            repeat still_step
            refine wpStill_nil ?_
            have H3 := Lib.hid ((H2.out.of_ext (show Ext w7 wp by rw [HWP.out]; exact (Ext.refl _).drew)).put HLV.out.1 HLV.out.2.2.2.1 (u := SC - dnV base V) (by rw [← HV.out, ← HSC.out]; exact rnG_rowN') (D' := rnD7 n m) (fun r' k' => Iff.rfl))
            have HU3 := Lib.hid ((HU2.out.trans (show Upd _ w7 wp by rw [HWP.out]; exact (Upd.refl _).drew)).setCell (a := ⟨bk (2 * n + 2), n, none⟩) (.int .i64 (SC - dnV base V)) (fun _ => HLT.out _ HLV.out.1))
            clear e0 e1 gb
            obtain ⟨w8, hwn⟩ : ∃ wn, wn = wp.setCell ⟨bk (2 * n + 2), n, none⟩ (.int .i64 (SC - dnV base V)) := ⟨_, rfl⟩
            rw [← hwn] at H3 HU3
            go_wp2_with fail
            rw [← hwn]
            clear hwn st fr HWP
            clear H2 HU2 QC
            obtain ⟨SR, hSR⟩ : ∃ S, (upR x base).sum = S := ⟨_, rfl⟩
            have sr := upR_sum HM.out HE.out HN.out hb2 hb3
            rw [hSR] at sr
            have sr0 := sr.1
            have sr1 := sr.2
            clear sr
            have HSR := Lib.hid hSR; clear hSR
            go_cut [] from 189 to 201 (fun wx => RnS wq n m (n + 1) (rnG x n m base) (rnD8 n m) B n2 n3 bk wx)
            case first =>
              have e0 := H3.out.tr.cell 0 (by simp)
              have e1 := H3.out.tr.cell 1 (by simp)
              have gb := Ext.cell H3.out.ext hbq
              obtain ⟨yy, st, fr, _, _⟩ := H3.out.cellR HLV.out.2.2.1 HLV.out.2.2.2.2.2
              have QR := Lib.hid (And.intro (show Ints w8.drew (.slice (some ⟨bk (2 * n + 2), 0, none⟩) n (n + 1)) (upR x base) from by
                have := H3.out.reads (r := 2 * n + 2) (q := n) HLV.out.1 (xs := upR x base) (upR_length HN.out) (Nat.le_of_lt HLV.out.2.2.2.1) (fun k hk => by
                  rw [ix_upR HN.out hk]
                  exact ⟨fun _ => rnG_row hk, fun hd => absurd (by unfold rnD7 rnD6 rnD5 rnD4; exact .inl (.inl (.inl (.inr (.inl ⟨rfl, hk⟩)))) ) hd⟩) (by unfold rnLen; rw [if_pos rfl]; omega)
                rw [show rnLen n m (2 * n + 2) = n + 1 by unfold rnLen; rw [if_pos rfl]] at this
                exact this) (upR_ok HM.out HE.out HN.out hb2 hb3))
              replace e0 := show w8.drew.cell? _ = _ from e0
              replace e1 := show w8.drew.cell? _ = _ from e1
              replace gb := show w8.drew.cell? _ = _ from gb
              replace st := show w8.drew.cell? _ = _ from st
              replace fr := show w8.drew.frozen? _ = _ from fr
              go_wp2_with fail
              refine wp_region_still_tail 13 (by kernel_rfl) (by kernel_rfl) ?_
              change wpStill _ _ w8.drew (fun a' => wpList _ _ _ _ a' w8.drew) _ _
              simp only [List.take_succ_cons, List.take_zero, List.drop_succ_cons, List.drop_zero]
              obtain ⟨wp, hwp⟩ : ∃ wp, wp = w8.drew := ⟨_, rfl⟩
              rw [← hwp] at e0 e1 gb st fr ⊢
              have QR := show Hid (Ints wp _ _ ∧ _) from hwp ▸ QR
              have HWP := Lib.hid hwp; clear hwp
              repeat still_step
              still_call (show Calls Try.prog _ #[_] wp (fun e w'' => e = .returned (.int .i64 SR) ∧ w'' = wp) from by rw [← HSR.out]; exact total_c _ _ _ QR.out.1 QR.out.2)
              repeat still_step
              still_call (rnDown_s V base _ _ gb hb0 (by omega) hb2 hb3)
              repeat still_step
              refine wpStill_nil ?_
              have H4 := Lib.hid ((H3.out.of_ext (show Ext w8 wp by rw [HWP.out]; exact (Ext.refl _).drew)).put HLV.out.2.2.1 HLV.out.2.2.2.2.2 (u := SR - dnV base V) (by rw [← HV.out, ← HSR.out]; exact rnG_colM') (D' := rnD8 n m) (fun r' k' => Iff.rfl))
              have HU4 := Lib.hid ((HU3.out.trans (show Upd _ w8 wp by rw [HWP.out]; exact (Upd.refl _).drew)).setCell (a := ⟨bk (2 * n + 3), m, none⟩) (.int .i64 (SR - dnV base V)) (fun _ => HLT.out _ HLV.out.2.2.1))
              clear e0 e1 gb
              obtain ⟨w9, hwn⟩ : ∃ wn, wn = wp.setCell ⟨bk (2 * n + 3), m, none⟩ (.int .i64 (SR - dnV base V)) := ⟨_, rfl⟩
              rw [← hwn] at H4 HU4
              go_wp2_with fail
              rw [← hwn]
              clear hwn st fr HWP
              clear H3 HU3 HU4 QR
              go_meet
              exact H4.out
            case rest =>
              have H4 := Lib.hid hcut
              clear hcut H3 HU3
              obtain ⟨w9, rfl⟩ : ∃ w9 : World, w9 = wc := ⟨_, rfl⟩
              have hF := (H4.out.full (fun r k hr hk hd => rnG_zero hr hk hd))
              have T := hF.tro (fun _ _ _ _ => trivial) (by omega) (by omega)
              have br := hrq.ext H4.out.ext
              have f0 := br.free 0
              have f1 := br.free 1
              have f2 := br.free 2
              have f3 := br.free 3
              have k0 := br.cell 0 (by simp)
              have k1 := br.cell 1 (by simp)
              have k2 := br.cell 2 (by simp)
              have k3 := br.cell 3 (by simp)
              have e0 := H4.out.tr.cell 0 (by simp)
              have e1 := H4.out.tr.cell 1 (by simp)
              have e2 := H4.out.tr.cell 2 (by simp)
              have e3 := H4.out.tr.cell 3 (by simp)
              have szq := hrq.lt
              have hne : B ≠ w.heap.size + 1 := by have := H4.out.new.1; omega
              have hs := put4_size w9 (w.heap.size + 1) (.slice (some ⟨bk (2 * n + 2), 0, none⟩) (n + 1) (n + 1)) (.slice (some ⟨bk (2 * n + 3), 0, none⟩) (m + 1) (m + 1)) (.slice (some ⟨n2, 0, none⟩) (n + 1) (n + 1)) (.slice (some ⟨n3, 0, none⟩) (n + 1) (n + 1))
              have P := (T.away (Upd.put4 (Upd.refl w9) (B := w.heap.size + 1) rfl (.slice (some ⟨bk (2 * n + 2), 0, none⟩) (n + 1) (n + 1)) (.slice (some ⟨bk (2 * n + 3), 0, none⟩) (m + 1) (m + 1)) (.slice (some ⟨n2, 0, none⟩) (n + 1) (n + 1)) (.slice (some ⟨n3, 0, none⟩) (n + 1) (n + 1))) (fun b hb => .inl (by subst hb; exact szq))).mono huq.size (Nat.le_of_eq hs.symm)
              have U := (huq.trans H4.out.ext).put4 (B := w.heap.size + 1) (by omega) (.slice (some ⟨bk (2 * n + 2), 0, none⟩) (n + 1) (n + 1)) (.slice (some ⟨bk (2 * n + 3), 0, none⟩) (m + 1) (m + 1)) (.slice (some ⟨n2, 0, none⟩) (n + 1) (n + 1)) (.slice (some ⟨n3, 0, none⟩) (n + 1) (n + 1))
              have HF := Lib.hid (And.intro P U); clear P U T hF hs szq br
              go_wp2
              refine bodyPost_ret (v := .agg #[.slice (some ⟨bk (2 * n + 2), 0, none⟩) (n + 1) (n + 1), .slice (some ⟨bk (2 * n + 3), 0, none⟩) (m + 1) (m + 1), .slice (some ⟨n2, 0, none⟩) (n + 1) (n + 1), .slice (some ⟨n3, 0, none⟩) (n + 1) (n + 1)]) (by simp [results, Try.results42, go_sem, k0, k1, k2, k3]) rfl ⟨_, rfl, HF.out.1, HF.out.2⟩
            -- END cut end
end Go.Proofs.Ytjpomfdmgaambaa
