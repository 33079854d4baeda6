/- Leaves and ancestors of a geography: the spec's and the program's. -/
import Derived.Test.YtolmmhdeebgglaaGp
namespace Go.Proofs.Ytolmmhdeebgglaa
open Go.RowKit

set_option maxHeartbeats 400000 in
theorem indexI_c (v : Value) (xs : List Int) (n : Int) (w : World) (h : Ints w v xs) : Calls Try.prog 91 #[v, .int .i64 n] w fun e w' => (∃ r : Int, e = .returned (.int .i64 r) ∧ -1 ≤ r ∧ r ≤ 9223372036854775807 ∧ decide (0 ≤ r) = hasI xs n) ∧ w' = w := by
  obtain ⟨ao, cap, rfl, h1, h2, h3⟩ := h
  have G := Lib.hid h3; clear h3
  go_enter Try.func91, Try.ntmps91
  go_wp2
  go_loop [8] (fun i => ∃ k : Nat, k ≤ xs.length ∧ i = .int .i64 k ∧ ∀ j, j < k → ix xs j ≠ n) (fun i => xs.length - (intOf i).toNat)
  case atStart => exact ⟨0, Nat.zero_le _, rfl, fun j hj => by omega⟩
  case round =>
    obtain ⟨k, hk, rfl, hj⟩ := hrel
    have HJ := Lib.hid hj; clear hj
    by_cases hlt : k < xs.length
    · obtain ⟨b, o, rfl, hc⟩ := G.out k hlt
      by_cases he : ix xs k = n
      · have hq : (n == ix xs k) = true := by simp [he]
        have HE := Lib.hid he; clear he
        go_wp2
        go_ret
        exact ⟨⟨k, rfl, by omega, by omega, by rw [hasI_of hlt HE.out]; simp⟩, rfl⟩
      · have hq : (n == ix xs k) = false := by simp; exact fun e => he e.symm
        have HE := Lib.hid he; clear he
        go_wp2
        go_round
        case rel => exact ⟨k + 1, by omega, by go_num, fun j hj => by
          by_cases e : j = k
          · subst e; exact HE.out
          · exact HJ.out j (by omega)⟩
        case measure => simp [intOf]; omega
    · go_wp2
      go_ret
      exact ⟨⟨-1, rfl, by omega, by omega, by rw [hasI_not (fun j hj => HJ.out j (by omega))]; rfl⟩, rfl⟩
theorem containsI_b (b : Bool) (v : Value) (xs : List Int) (n : Int) (w : World) (hb : hasI xs n = b) (h : Ints w v xs) : Calls Try.prog 74 #[v, .int .i64 n] w fun e w' => e = .returned (.bool b) ∧ w' = w := by
  have H := Lib.hid h; clear h
  have HB := Lib.hid hb; clear hb
  go_enter Try.func74, Try.ntmps74
  go_wp2_with fail
  refine (indexI_c _ xs n _ H.out).mono ?_
  rintro e w' ⟨⟨r, rfl, h1, h2, h3⟩, rfl⟩
  rw [HB.out] at h3
  go_wp2
  go_ret
  first | exact ⟨rfl, rfl⟩ | exact ⟨ret_bool h3, rfl⟩
set_option maxHeartbeats 1000000 in
theorem gChildren_c (v : Value) (T : Ge) (i : Int) (w : World) (h : GeR w v T) (hg : GeoP T.par) :
    Calls Try.prog 102 #[v, .int .i64 i] w fun e w' => ∃ v', e = .returned v' ∧ Ints w' v' (chTo T.par i T.par.length) ∧ Ext w w' := by
  have HG := Lib.hid hg; clear hg
  have HR := Lib.hid h
  obtain ⟨v1, rfl, a1, c1, rfl, e1, e2, g1⟩ := h
  obtain ⟨n, hn⟩ : ∃ n, T.par.length = n := ⟨_, rfl⟩
  have hn3 := HG.out.1.2
  rw [hn] at e1 hn3 HR ⊢
  have HN := Lib.hid hn; clear hn
  have u0 := (Ext.refl w).alloc (.cells #[.slice a1 n c1] 33)
  have b0 := Box.new w 33 #[.slice a1 n c1] rfl
  have k0 := b0.cell 0 (by simp)
  have G1 := Lib.hid (show IntsA (w.alloc (.cells #[.slice a1 n c1] 33)) a1 T.par from fun k hk => by obtain ⟨b, o, e, hc⟩ := g1 k hk; exact ⟨b, o, e, Ext.cell u0 hc⟩); clear g1
  have HR := Lib.hid (HR.out.ext u0)
  go_enter Try.func102, Try.ntmps102
  go_wp2_with fail
  obtain ⟨wq, hwq⟩ : ∃ wq, wq = w.alloc (.cells #[.slice a1 n c1] 33) := ⟨_, rfl⟩
  rw [← hwq] at u0 b0 HR G1 ⊢
  clear hwq k0
  go_loopw [5, 11] (fun r x wr => ∃ k : Nat, k ≤ n ∧ x = .int .i64 k ∧ IRow wq.heap.size wr r (chTo T.par i k) ∧ Ext wq wr) (fun _ x _ => n - (intOf x).toNat)
  case atStart => exact ⟨0, Nat.zero_le _, rfl, IRow.nil, Ext.refl _⟩
  case round =>
    obtain ⟨k, hk, rfl, hr, hx⟩ := hrel
    obtain ⟨w1, rfl⟩ : ∃ w1 : World, w1 = wr := ⟨_, rfl⟩
    have u1 := Ext.refl w1
    have HI := Lib.hid hr; clear hr
    have bo := b0.ext hx
    have ko := bo.cell 0 (by simp)
    by_cases hlt : k < n
    · obtain ⟨b, o, rfl, hc'⟩ := G1.out k (by rw [HN.out]; exact hlt)
      have hc := Ext.cell hx hc'
      clear hc'
      by_cases he : ix T.par k = i
      · have HE : Hid (chTo T.par i (k + 1) = chTo T.par i k ++ [(k : Int)]) := Lib.hid (by simp only [chTo]; rw [if_pos he])
        have hq : (ix T.par k == i) = true := by simp; exact he
        have hown := HI.out.ext (u1.alloc (.cells #[.int .i64 k] 3))
        have HOWN := Lib.hid hown
        obtain ⟨L, hL⟩ : ∃ L, (chTo T.par i k).length = L := ⟨_, rfl⟩
        have hL2 := chTo_len T.par i k
        unfold IRow at hown
        rw [hL] at hown hL2
        have HOW2 := Lib.hid hown; clear hown
        have HL := Lib.hid hL; clear hL
        have hs := hx.size
        have hs1 := u1.size
        have hs0 := u0.size
        go_wp2_with (at_builtin; go_loud (refine app1 _ rfl _ _ 22 3 rfl (.int .i64 0) 8 Try.underlying22 info_int rfl wq.heap.size _ L _ rfl HOW2.out w1.heap.size 1 3 (.int .i64 k) rfl (Box.new _ _ _ rfl) rfl (by omega) (by omega) (by simp; omega) ?_))
        intro g cp w3 hown3 hgrow hat hlt3
        have HX3 := Lib.hid (HOWN.out.grew ((hx.trans u1).alloc _) (Nat.le_refl _) hgrow)
        have HO3 := Lib.hid hown3; clear hown3
        clear hgrow
        go_wp2
        go_roundw
        case rel => exact ⟨k + 1, by omega, by go_num, by rw [HE.out]; exact IRow.push (by rw [HL.out]; exact HO3.out), HX3.out⟩
        case measure => simp [intOf]; omega
      · have HE : Hid (chTo T.par i (k + 1) = chTo T.par i k) := Lib.hid (by simp only [chTo]; rw [if_neg he])
        have hq : (ix T.par k == i) = false := by simp; exact he
        go_wp2
        go_roundw
        case rel => exact ⟨k + 1, by omega, by go_num, by rw [HE.out]; exact HI.out, hx⟩
        case measure => simp [intOf]; omega
    · have hkl : k = n := by omega
      subst hkl
      go_wp2
      go_ret
      refine ⟨_, rfl, ?_, u0.trans hx⟩
      exact (HI.out.own (Nat.le_refl _)).ints
set_option maxHeartbeats 400000 in
theorem isLeaf_c (v : Value) (T : Ge) (i : Int) (w : World) (h : GeR w v T) :
    Calls Try.prog 96 #[v, .int .i64 i] w fun e w' => e = .returned (.bool (!hasI T.par i)) ∧ Ext w w' := by
  have HR := Lib.hid h
  obtain ⟨v1, rfl, hi⟩ := h
  have HI := Lib.hid hi; clear hi
  have u0 := (Ext.refl w).alloc (.cells #[v1] 33)
  have b0 := Box.new w 33 #[v1] rfl
  have k0 := b0.cell 0 (by simp)
  go_enter Try.func96, Try.ntmps96
  go_wp2_with fail
  refine (containsI_b _ _ T.par i _ rfl (HI.out.ext u0)).mono ?_
  rintro e w1 ⟨rfl, rfl⟩
  go_wp2
  go_ret
  exact ⟨rfl, u0⟩
set_option maxHeartbeats 1000000 in
theorem gLeaves_c (v : Value) (T : Ge) (w : World) (h : GeR w v T) (hg : GeoP T.par) :
    Calls Try.prog 94 #[v] w fun e w' => ∃ v', e = .returned v' ∧ Ints w' v' (leafL T.par) ∧ Ext w w' := by
  have HG := Lib.hid hg; clear hg
  have HR := Lib.hid h
  obtain ⟨v1, rfl, a1, c1, rfl, e1, e2, g1⟩ := h
  obtain ⟨n, hn⟩ : ∃ n, T.par.length = n := ⟨_, rfl⟩
  have hn3 := HG.out.1.2
  rw [hn] at e1 hn3 HR ⊢
  have HN := Lib.hid hn; clear hn
  have u0 := (Ext.refl w).alloc (.cells #[.slice a1 n c1] 33)
  have b0 := Box.new w 33 #[.slice a1 n c1] rfl
  have k0 := b0.cell 0 (by simp)
  have G1 := Lib.hid (show IntsA (w.alloc (.cells #[.slice a1 n c1] 33)) a1 T.par from fun k hk => by obtain ⟨b, o, e, hc⟩ := g1 k hk; exact ⟨b, o, e, Ext.cell u0 hc⟩); clear g1
  have HR := Lib.hid (HR.out.ext u0)
  go_enter Try.func94, Try.ntmps94
  go_wp2_with fail
  obtain ⟨wq, hwq⟩ : ∃ wq, wq = w.alloc (.cells #[.slice a1 n c1] 33) := ⟨_, rfl⟩
  rw [← hwq] at u0 b0 HR G1 ⊢
  clear hwq k0
  clear G1
  go_loopw [3, 8] (fun r i wr => ∃ k : Nat, k ≤ n ∧ i = .int .i64 k ∧ IRow wq.heap.size wr r (leafTo T.par k) ∧ Ext wq wr) (fun _ i _ => n - (intOf i).toNat)
  case atStart => exact ⟨0, Nat.zero_le _, rfl, IRow.nil, Ext.refl _⟩
  case round =>
    obtain ⟨k, hk, rfl, hr, hx⟩ := hrel
    obtain ⟨wo, rfl⟩ : ∃ wo : World, wo = wr := ⟨_, rfl⟩
    have HI := Lib.hid hr; clear hr
    have bo := b0.ext hx
    have ko := bo.cell 0 (by simp)
    by_cases hlt : k < n
    · go_wp2_with fail
      refine (gChildren_c _ T k _ (HR.out.ext hx) HG.out).mono ?_
      rintro e w1 ⟨v2, rfl, hi2, u1⟩
      obtain ⟨a2, c2, rfl, l1, l2, _⟩ := hi2
      have HC := Lib.hid (chTo_has (par := T.par) (i := (k : Int)))
      obtain ⟨Q, hQ⟩ : ∃ Q, (chTo T.par k T.par.length).length = Q := ⟨_, rfl⟩
      rw [hQ] at l1 HC ⊢
      clear hQ
      by_cases he : hasI T.par k = false
      · have HE : Hid (leafTo T.par (k + 1) = leafTo T.par k ++ [(k : Int)]) := Lib.hid (by simp only [leafTo]; rw [if_pos he])
        have hq : (Q : Int) = 0 := by have := HC.out.2 he; omega
        clear l1 he
        have hown := HI.out.ext (u1.alloc (.cells #[.int .i64 k] 3))
        have HOWN := Lib.hid hown
        obtain ⟨L, hL⟩ : ∃ L, (leafTo T.par k).length = L := ⟨_, rfl⟩
        have hL2 := leafTo_len T.par k
        unfold IRow at hown
        rw [hL] at hown hL2
        have HOW2 := Lib.hid hown; clear hown
        have HL := Lib.hid hL; clear hL
        have hs := hx.size
        have hs1 := u1.size
        have hs0 := u0.size
        go_wp2_with (at_builtin; go_loud (refine app1 _ rfl _ _ 22 3 rfl (.int .i64 0) 8 Try.underlying22 info_int rfl wq.heap.size _ L _ rfl HOW2.out w1.heap.size 1 3 (.int .i64 k) rfl (Box.new _ _ _ rfl) rfl (by omega) (by omega) (by simp; omega) ?_))
        intro g cp w3 hown3 hgrow hat hlt3
        have HX3 := Lib.hid (HOWN.out.grew ((hx.trans u1).alloc _) (Nat.le_refl _) hgrow)
        have HO3 := Lib.hid hown3; clear hown3
        clear hgrow
        go_wp2
        go_roundw
        case rel => exact ⟨k + 1, by omega, by go_num, by rw [HE.out]; exact IRow.push (by rw [HL.out]; exact HO3.out), HX3.out⟩
        case measure => simp [intOf]; omega
      · have HE : Hid (leafTo T.par (k + 1) = leafTo T.par k) := Lib.hid (by simp only [leafTo]; rw [if_neg he])
        have hq : ((Q : Int) == 0) = false := by
          simp
          intro e
          exact he (HC.out.1 (by omega))
        clear he
        go_wp2
        go_roundw
        case rel => exact ⟨k + 1, by omega, by go_num, by rw [HE.out]; exact HI.out.ext u1, hx.trans u1⟩
        case measure => simp [intOf]; omega
    · have hkl : k = n := by omega
      subst hkl
      go_wp2
      go_ret
      refine ⟨_, rfl, ?_, u0.trans hx⟩
      have := (HI.out.own (Nat.le_refl _)).ints
      unfold leafL
      rw [HN.out]
      exact this
set_option maxHeartbeats 1000000 in
theorem leavesOf_c (v : Value) (T : Ge) (w : World) (h : GeR w v T) (hg : GeoP T.par) :
    Calls Try.prog 72 #[v] w fun e w' => ∃ v', e = .returned v' ∧ Ints w' v' (leafL T.par) ∧ Ext w w' := by
  have HG := Lib.hid hg; clear hg
  have HR := Lib.hid h
  obtain ⟨v1, rfl, a1, c1, rfl, e1, e2, g1⟩ := h
  obtain ⟨n, hn⟩ : ∃ n, T.par.length = n := ⟨_, rfl⟩
  have hn3 := HG.out.1.2
  rw [hn] at e1 hn3 HR ⊢
  have HN := Lib.hid hn; clear hn
  have u0 := (Ext.refl w).alloc (.cells #[.slice a1 n c1] 33)
  have b0 := Box.new w 33 #[.slice a1 n c1] rfl
  have k0 := b0.cell 0 (by simp)
  have G1 := Lib.hid (show IntsA (w.alloc (.cells #[.slice a1 n c1] 33)) a1 T.par from fun k hk => by obtain ⟨b, o, e, hc⟩ := g1 k hk; exact ⟨b, o, e, Ext.cell u0 hc⟩); clear g1
  have HR := Lib.hid (HR.out.ext u0)
  go_enter Try.func72, Try.ntmps72
  go_wp2_with fail
  obtain ⟨wq, hwq⟩ : ∃ wq, wq = w.alloc (.cells #[.slice a1 n c1] 33) := ⟨_, rfl⟩
  rw [← hwq] at u0 b0 HR G1 ⊢
  clear hwq k0
  clear G1
  go_loopw [3, 8] (fun r i wr => ∃ k : Nat, k ≤ n ∧ i = .int .i64 k ∧ IRow wq.heap.size wr r (leafTo T.par k) ∧ Ext wq wr) (fun _ i _ => n - (intOf i).toNat)
  case atStart => exact ⟨0, Nat.zero_le _, rfl, IRow.nil, Ext.refl _⟩
  case round =>
    obtain ⟨k, hk, rfl, hr, hx⟩ := hrel
    obtain ⟨wo, rfl⟩ : ∃ wo : World, wo = wr := ⟨_, rfl⟩
    have HI := Lib.hid hr; clear hr
    have bo := b0.ext hx
    have ko := bo.cell 0 (by simp)
    by_cases hlt : k < n
    · go_wp2_with fail
      refine (isLeaf_c _ T k _ (HR.out.ext hx)).mono ?_
      rintro e w1 ⟨rfl, u1⟩
      by_cases he : hasI T.par k = false
      · have HE : Hid (leafTo T.par (k + 1) = leafTo T.par k ++ [(k : Int)]) := Lib.hid (by simp only [leafTo]; rw [if_pos he])
        rw [he]
        have HEE := Lib.hid he; clear he
        have hown := HI.out.ext (u1.alloc (.cells #[.int .i64 k] 3))
        have HOWN := Lib.hid hown
        obtain ⟨L, hL⟩ : ∃ L, (leafTo T.par k).length = L := ⟨_, rfl⟩
        have hL2 := leafTo_len T.par k
        unfold IRow at hown
        rw [hL] at hown hL2
        have HOW2 := Lib.hid hown; clear hown
        have HL := Lib.hid hL; clear hL
        have hs := hx.size
        have hs1 := u1.size
        have hs0 := u0.size
        go_wp2_with (at_builtin; go_loud (refine app1 _ rfl _ _ 22 3 rfl (.int .i64 0) 8 Try.underlying22 info_int rfl wq.heap.size _ L _ rfl HOW2.out w1.heap.size 1 3 (.int .i64 k) rfl (Box.new _ _ _ rfl) rfl (by omega) (by omega) (by simp; omega) ?_))
        intro g cp w3 hown3 hgrow hat hlt3
        have HX3 := Lib.hid (HOWN.out.grew ((hx.trans u1).alloc _) (Nat.le_refl _) hgrow)
        have HO3 := Lib.hid hown3; clear hown3
        clear hgrow
        go_wp2
        go_roundw
        case rel => exact ⟨k + 1, by omega, by go_num, by rw [HE.out]; exact IRow.push (by rw [HL.out]; exact HO3.out), HX3.out⟩
        case measure => simp [intOf]; omega
      · have HE : Hid (leafTo T.par (k + 1) = leafTo T.par k) := Lib.hid (by simp only [leafTo]; rw [if_neg he])
        rw [Bool.not_eq_false] at he
        rw [he]
        have HEE := Lib.hid he; clear he
        go_wp2
        go_roundw
        case rel => exact ⟨k + 1, by omega, by go_num, by rw [HE.out]; exact HI.out.ext u1, hx.trans u1⟩
        case measure => simp [intOf]; omega
    · have hkl : k = n := by omega
      subst hkl
      go_wp2
      go_ret
      refine ⟨_, rfl, ?_, u0.trans hx⟩
      have := (HI.out.own (Nat.le_refl _)).ints
      unfold leafL
      rw [HN.out]
      exact this
set_option maxHeartbeats 1000000 in
theorem gUp_c (v : Value) (T : Ge) (i : Nat) (lev : Int) (w : World) (h : GeR w v T) (hg : GeoP T.par) (hi : i < T.par.length) :
    Calls Try.prog 57 #[v, .int .i64 i, .int .i64 lev] w fun e w' => e = .returned (.int .i64 (ancL T.par i lev)) ∧ Ext w w' := by
  have HG := Lib.hid hg; clear hg
  have HR := Lib.hid h
  obtain ⟨v1, rfl, a1, c1, rfl, e1, e2, g1⟩ := h
  obtain ⟨n, hn⟩ : ∃ n, T.par.length = n := ⟨_, rfl⟩
  have hn3 := HG.out.1.2
  rw [hn] at e1 hn3 HR hi ⊢
  have HN := Lib.hid hn; clear hn
  have u0 := (Ext.refl w).alloc (.cells #[.slice a1 n c1] 33)
  have b0 := Box.new w 33 #[.slice a1 n c1] rfl
  have k0 := b0.cell 0 (by simp)
  have G1 := Lib.hid (show IntsA (w.alloc (.cells #[.slice a1 n c1] 33)) a1 T.par from fun k hk => by obtain ⟨b, o, e, hc⟩ := g1 k hk; exact ⟨b, o, e, Ext.cell u0 hc⟩); clear g1
  have HR := Lib.hid (HR.out.ext u0)
  by_cases hl0 : lev < 0
  · have HA := Lib.hid (ancL_not (par := T.par) (i := i) (lev := lev) (.inl hl0))
    go_enter Try.func57, Try.ntmps57
    go_wp2_with fail
    refine (gDepth_c _ T i _ HR.out HG.out (by rw [HN.out]; exact hi)).mono ?_
    rintro e w1 ⟨rfl, u1⟩
    go_wp2
    go_ret
    exact ⟨ret_int (by rw [HA.out]), u0.trans u1⟩
  by_cases hdl : (dep T.par i : Int) < lev
  · have HA := Lib.hid (ancL_not (par := T.par) (i := i) (lev := lev) (.inr hdl))
    go_enter Try.func57, Try.ntmps57
    go_wp2_with fail
    refine (gDepth_c _ T i _ HR.out HG.out (by rw [HN.out]; exact hi)).mono ?_
    rintro e w1 ⟨rfl, u1⟩
    obtain ⟨d, hd⟩ : ∃ d, dep T.par i = d := ⟨_, rfl⟩
    rw [hd] at hdl ⊢
    clear hd
    go_wp2_with fail
    go_loop [1, 7] (fun x y => x = .int .i64 i ∧ y = .int .i64 d) (fun x _ => (intOf x).toNat)
    case atStart => exact ⟨rfl, rfl⟩
    case round =>
      obtain ⟨rfl, rfl⟩ := hrel
      go_wp2
      go_ret
      exact ⟨ret_int (by rw [HA.out]), u0.trans u1⟩
  go_enter Try.func57, Try.ntmps57
  go_wp2_with fail
  refine (gDepth_c _ T i _ HR.out HG.out (by rw [HN.out]; exact hi)).mono ?_
  rintro e w1 ⟨rfl, u1⟩
  have b1 := b0.ext u1
  have k1 := b1.cell 0 (by simp)
  have hdn := dep_le HG.out i (by rw [HN.out]; exact hi)
  obtain ⟨d, hd⟩ : ∃ d, dep T.par i = d := ⟨_, rfl⟩
  rw [hd] at hdl hdn ⊢
  have HD := Lib.hid hd; clear hd
  go_wp2_with fail
  go_loop [1, 7] (fun x y => ∃ j m : Nat, x = .int .i64 j ∧ y = .int .i64 m ∧ j < n ∧ m < 30 ∧ Hid (m = dep T.par j) ∧ lev ≤ m ∧ Hid (ancL T.par j lev = ancL T.par i lev)) (fun x _ => (intOf x).toNat)
  case atStart => exact ⟨i, d, rfl, rfl, hi, by omega, Lib.hid HD.out.symm, by omega, Lib.hid rfl⟩
  case round =>
    obtain ⟨j, m, rfl, rfl, hj, hm, HM, hlm, HA⟩ := hrel
    by_cases hgt : lev < m
    · obtain ⟨b, o, rfl, hc'⟩ := G1.out j (by rw [HN.out]; exact hj)
      have hc := Ext.cell u1 hc'
      clear hc'
      obtain ⟨hp, f1, f2⟩ := ancL_up HG.out (i := j) (lev := lev) (by rw [HN.out]; exact hj) (by omega) (by rw [← HM.out]; exact hgt)
      have hb := HG.out.2.2 j hp (by rw [HN.out]; exact hj)
      obtain ⟨p, hpe⟩ : ∃ p : Nat, ix T.par j = p := ⟨(ix T.par j).toNat, by omega⟩
      rw [hpe] at hc hb f1 f2
      have HA2 : Hid (ancL T.par p lev = ancL T.par i lev) := Lib.hid (by rw [← HA.out, f1]; rfl)
      have HM2 : Hid (m - 1 = dep T.par p) := Lib.hid (by rw [HM.out, f2]; rfl)
      have hm1 : 1 ≤ m := by rw [HM.out, f2]; omega
      clear f1 f2 hpe
      go_wp2
      go_round
      case rel => exact ⟨p, m - 1, by go_num, by go_num, by omega, by omega, HM2, by omega, HA2⟩
      case measure => simp [intOf]; omega
    · have HS : Hid (ancL T.par i lev = j) := Lib.hid (by rw [← HA.out]; exact ancL_same (by omega) (by rw [← HM.out]; omega))
      go_wp2
      go_ret
      exact ⟨ret_int HS.out.symm, u0.trans u1⟩
set_option maxHeartbeats 1000000 in
theorem ancestorAt_c (v : Value) (T : Ge) (i : Nat) (lev : Int) (w : World) (h : GeR w v T) (hg : GeoP T.par) (hi : i < T.par.length) :
    Calls Try.prog 92 #[v, .int .i64 i, .int .i64 lev] w fun e w' => e = .returned (.int .i64 (ancL T.par i lev)) ∧ Ext w w' := by
  have HG := Lib.hid hg; clear hg
  have HR := Lib.hid h
  obtain ⟨v1, rfl, a1, c1, rfl, e1, e2, g1⟩ := h
  obtain ⟨n, hn⟩ : ∃ n, T.par.length = n := ⟨_, rfl⟩
  have hn3 := HG.out.1.2
  rw [hn] at e1 hn3 HR hi ⊢
  have HN := Lib.hid hn; clear hn
  have u0 := (Ext.refl w).alloc (.cells #[.slice a1 n c1] 33)
  have b0 := Box.new w 33 #[.slice a1 n c1] rfl
  have k0 := b0.cell 0 (by simp)
  have G1 := Lib.hid (show IntsA (w.alloc (.cells #[.slice a1 n c1] 33)) a1 T.par from fun k hk => by obtain ⟨b, o, e, hc⟩ := g1 k hk; exact ⟨b, o, e, Ext.cell u0 hc⟩); clear g1
  have HR := Lib.hid (HR.out.ext u0)
  by_cases hl0 : lev < 0
  · have HA := Lib.hid (ancL_not (par := T.par) (i := i) (lev := lev) (.inl hl0))
    go_enter Try.func92, Try.ntmps92
    go_wp2_with fail
    refine (depthOf_c _ T i _ HR.out HG.out (by rw [HN.out]; exact hi)).mono ?_
    rintro e w1 ⟨rfl, u1⟩
    go_wp2
    go_ret
    exact ⟨ret_int (by rw [HA.out]), u0.trans u1⟩
  by_cases hdl : (dep T.par i : Int) < lev
  · have HA := Lib.hid (ancL_not (par := T.par) (i := i) (lev := lev) (.inr hdl))
    go_enter Try.func92, Try.ntmps92
    go_wp2_with fail
    refine (depthOf_c _ T i _ HR.out HG.out (by rw [HN.out]; exact hi)).mono ?_
    rintro e w1 ⟨rfl, u1⟩
    obtain ⟨d, hd⟩ : ∃ d, dep T.par i = d := ⟨_, rfl⟩
    rw [hd] at hdl ⊢
    clear hd
    go_wp2
    go_ret
    exact ⟨ret_int (by rw [HA.out]), u0.trans u1⟩
  go_enter Try.func92, Try.ntmps92
  go_wp2_with fail
  refine (depthOf_c _ T i _ HR.out HG.out (by rw [HN.out]; exact hi)).mono ?_
  rintro e w1 ⟨rfl, u1⟩
  have b1 := b0.ext u1
  have k1 := b1.cell 0 (by simp)
  have hdn := dep_le HG.out i (by rw [HN.out]; exact hi)
  obtain ⟨d, hd⟩ : ∃ d, dep T.par i = d := ⟨_, rfl⟩
  rw [hd] at hdl hdn ⊢
  have HD := Lib.hid hd; clear hd
  go_wp2_with fail
  go_loop [1, 7] (fun x y => ∃ j m : Nat, x = .int .i64 j ∧ y = .int .i64 m ∧ j < n ∧ m < 30 ∧ Hid (m = dep T.par j) ∧ lev ≤ m ∧ Hid (ancL T.par j lev = ancL T.par i lev)) (fun x _ => (intOf x).toNat)
  case atStart => exact ⟨i, d, rfl, rfl, hi, by omega, Lib.hid HD.out.symm, by omega, Lib.hid rfl⟩
  case round =>
    obtain ⟨j, m, rfl, rfl, hj, hm, HM, hlm, HA⟩ := hrel
    by_cases hgt : lev < m
    · obtain ⟨b, o, rfl, hc'⟩ := G1.out j (by rw [HN.out]; exact hj)
      have hc := Ext.cell u1 hc'
      clear hc'
      obtain ⟨hp, f1, f2⟩ := ancL_up HG.out (i := j) (lev := lev) (by rw [HN.out]; exact hj) (by omega) (by rw [← HM.out]; exact hgt)
      have hb := HG.out.2.2 j hp (by rw [HN.out]; exact hj)
      obtain ⟨p, hpe⟩ : ∃ p : Nat, ix T.par j = p := ⟨(ix T.par j).toNat, by omega⟩
      rw [hpe] at hc hb f1 f2
      have HA2 : Hid (ancL T.par p lev = ancL T.par i lev) := Lib.hid (by rw [← HA.out, f1]; rfl)
      have HM2 : Hid (m - 1 = dep T.par p) := Lib.hid (by rw [HM.out, f2]; rfl)
      have hm1 : 1 ≤ m := by rw [HM.out, f2]; omega
      clear f1 f2 hpe
      go_wp2
      go_round
      case rel => exact ⟨p, m - 1, by go_num, by go_num, by omega, by omega, HM2, by omega, HA2⟩
      case measure => simp [intOf]; omega
    · have HS : Hid (ancL T.par i lev = j) := Lib.hid (by rw [← HA.out]; exact ancL_same (by omega) (by rw [← HM.out]; omega))
      go_wp2
      go_ret
      exact ⟨ret_int HS.out.symm, u0.trans u1⟩
end Go.Proofs.Ytolmmhdeebgglaa
