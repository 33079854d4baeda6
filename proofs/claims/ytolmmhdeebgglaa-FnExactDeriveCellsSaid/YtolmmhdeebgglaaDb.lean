/- Values, indices and places: the small functions under DeriveCells. -/
import Derived.Test.YtolmmhdeebgglaaDa
import Derived.Test.YtolmmhdeebgglaaTe
import Derived.Test.YtolmmhdeebgglaaQext
import Derived.BigQuiet
namespace Go.Proofs.Ytolmmhdeebgglaa
open Go.RowKit


set_option maxHeartbeats 3200000 in
theorem sAt_c (v : Value) (l : List Vr) (i : Int) (w : World) (h : Vrs w v l) (hl : LevP l) (hi : 0 ≤ i ∧ i ≤ 1000000) :
    Calls Try.prog 83 #[v, .int .i64 i] w fun e w' => ∃ v', e = .returned v' ∧ Ints w' v' (vlL l i) ∧ Ext w w' := by
  obtain ⟨a1, c1, rfl, e1, e2, g1⟩ := h
  have G1 := Lib.hid g1; clear g1
  have h6 := hl.1
  have HL := Lib.hid hl; clear hl
  have HI := Lib.hid hi.1
  obtain ⟨n, hn⟩ : ∃ n, l.length = n := ⟨_, rfl⟩
  rw [hn] at e1 h6 ⊢
  have HN := Lib.hid hn; clear hn
  have hmk := run_make_row' (P := Try.prog) 22 3 (.int .i64 0) 8 Try.underlying22 info_int rfl .i64 .i64 n (by omega) (by omega)
  have q0 : Hid (qd l i 0 = i) := Lib.hid rfl
  go_enter Try.func83, Try.ntmps83
  go_wp2_with fail
  go_loopw [1, 6] (fun x k wr => ∃ r : Nat, r ≤ n ∧ k = .int .i64 ((r : Int) - 1) ∧ x = .int .i64 (qd l i (n - r)) ∧ wr.rowIs w.heap.size 3 n (fun j => .int .i64 (if r ≤ j then valAt l i j else 0)) ∧ Ext w wr) (fun _ k _ => ((intOf k) + 1).toNat)
  case atStart => exact ⟨n, Nat.le_refl _, rfl, by rw [Nat.sub_self]; rfl, (World.rowIs_made w (.int .i64 0) n 3).congr (fun j hj => by rw [if_neg (by omega)]), (Ext.refl w).alloc _⟩
  case round =>
    clear hmk
    obtain ⟨r, hr, rfl, rfl, hrow, hx⟩ := hrel
    obtain ⟨wo, rfl⟩ : ∃ wo : World, wo = wr := ⟨_, rfl⟩
    have HR := Lib.hid hrow; clear hrow
    rcases Nat.eq_zero_or_pos r with rfl | hp
    · go_wp2
      go_ret
      exact ⟨_, rfl, (Own.of_rowIs (lo := 0) (hi := wo.heap.size) HR.out (by rw [vlL_len]; exact HN.out) (fun j hj => by rw [if_pos (by omega), ix_vlL (by rw [HN.out]; exact hj)]) (Nat.zero_le _) HR.out.lt (by omega)).ints, hx⟩
    · obtain ⟨K, rfl⟩ : ∃ K, r = K + 1 := ⟨r - 1, by omega⟩
      have eK : (((K + 1 : Nat) : Int) - 1) = (K : Int) := by omega
      rw [eK]
      clear eK hp
      have hlt : K < n := hr
      obtain ⟨b1, o1, rfl, _, hd1⟩ := (G1.out.ext hx).at_ (k := K) (by rw [HN.out]; exact hlt)
      have hq := qd_bound HL.out HI.out (n - (K + 1)) (by rw [HN.out]; omega)
      have hlv := HL.out.2 K (by rw [HN.out]; exact hlt)
      have HQ : Hid (qd l i (n - K) = qd l i (n - (K + 1)) / (vrAt l K).lev) := Lib.hid (by
        have e1 : n - K = (n - (K + 1)) + 1 := by omega
        rw [e1]
        show _ / _ = _
        rw [HN.out]
        have e2 : n - 1 - (n - (K + 1)) = K := by omega
        rw [e2])
      have HV : Hid (valAt l i K = qd l i (n - (K + 1)) % (vrAt l K).lev) := Lib.hid (by
        unfold valAt
        rw [HN.out]
        have e2 : n - 1 - K = n - (K + 1) := by omega
        rw [e2])
      obtain ⟨lv, hlv'⟩ : ∃ lv, (vrAt l K).lev = lv := ⟨_, rfl⟩
      obtain ⟨Q, hQ⟩ : ∃ Q, qd l i (n - (K + 1)) = Q := ⟨_, rfl⟩
      rw [hlv'] at hd1 hlv HQ HV
      rw [hQ] at hq HQ HV ⊢
      clear hlv' hQ
      have hcell := HR.out.cell (i := K) hlt
      have hfr := HR.out.frozen K
      rw [if_neg (by omega)] at hcell
      have hlv0 : ¬ lv = 0 := by omega
      go_wp2
      go_roundw
      case rel =>
        refine ⟨K, by omega, rfl, by rw [HQ.out], (HR.out.set K _).congr (fun j hj => ?_), hx.of_upd ((Upd.refl wo).setCell (S := fun b => b = w.heap.size) _ (fun _ => rfl)) (fun b hb => by omega)⟩
        by_cases e : j = K
        · subst e; rw [if_pos rfl, if_pos (Nat.le_refl _), HV.out]
        · rw [if_neg e]
          by_cases e2 : K ≤ j
          · rw [if_pos e2, if_pos (by omega)]
          · rw [if_neg e2, if_neg (by omega)]
      case measure => simp [intOf]

set_option maxHeartbeats 3200000 in
theorem valuesAt_c (v : Value) (l : List Vr) (i : Int) (w : World) (h : Vrs w v l) (hl : LevP l) (hi : 0 ≤ i ∧ i ≤ 1000000) :
    Calls Try.prog 90 #[v, .int .i64 i] w fun e w' => ∃ v', e = .returned v' ∧ Ints w' v' (vlL l i) ∧ Ext w w' := by
  obtain ⟨a1, c1, rfl, e1, e2, g1⟩ := h
  have G1 := Lib.hid g1; clear g1
  have h6 := hl.1
  have HL := Lib.hid hl; clear hl
  have HI := Lib.hid hi.1
  obtain ⟨n, hn⟩ : ∃ n, l.length = n := ⟨_, rfl⟩
  rw [hn] at e1 h6 ⊢
  have HN := Lib.hid hn; clear hn
  have hmk := run_make_row' (P := Try.prog) 22 3 (.int .i64 0) 8 Try.underlying22 info_int rfl .i64 .i64 n (by omega) (by omega)
  have q0 : Hid (qd l i 0 = i) := Lib.hid rfl
  go_enter Try.func90, Try.ntmps90
  go_wp2_with fail
  go_loopw [1, 6] (fun x k wr => ∃ r : Nat, r ≤ n ∧ k = .int .i64 ((r : Int) - 1) ∧ x = .int .i64 (qd l i (n - r)) ∧ wr.rowIs w.heap.size 3 n (fun j => .int .i64 (if r ≤ j then valAt l i j else 0)) ∧ Ext w wr) (fun _ k _ => ((intOf k) + 1).toNat)
  case atStart => exact ⟨n, Nat.le_refl _, rfl, by rw [Nat.sub_self]; rfl, (World.rowIs_made w (.int .i64 0) n 3).congr (fun j hj => by rw [if_neg (by omega)]), (Ext.refl w).alloc _⟩
  case round =>
    clear hmk
    obtain ⟨r, hr, rfl, rfl, hrow, hx⟩ := hrel
    obtain ⟨wo, rfl⟩ : ∃ wo : World, wo = wr := ⟨_, rfl⟩
    have HR := Lib.hid hrow; clear hrow
    rcases Nat.eq_zero_or_pos r with rfl | hp
    · go_wp2
      go_ret
      exact ⟨_, rfl, (Own.of_rowIs (lo := 0) (hi := wo.heap.size) HR.out (by rw [vlL_len]; exact HN.out) (fun j hj => by rw [if_pos (by omega), ix_vlL (by rw [HN.out]; exact hj)]) (Nat.zero_le _) HR.out.lt (by omega)).ints, hx⟩
    · obtain ⟨K, rfl⟩ : ∃ K, r = K + 1 := ⟨r - 1, by omega⟩
      have eK : (((K + 1 : Nat) : Int) - 1) = (K : Int) := by omega
      rw [eK]
      clear eK hp
      have hlt : K < n := hr
      obtain ⟨b1, o1, rfl, _, hd1⟩ := (G1.out.ext hx).at_ (k := K) (by rw [HN.out]; exact hlt)
      have hq := qd_bound HL.out HI.out (n - (K + 1)) (by rw [HN.out]; omega)
      have hlv := HL.out.2 K (by rw [HN.out]; exact hlt)
      have HQ : Hid (qd l i (n - K) = qd l i (n - (K + 1)) / (vrAt l K).lev) := Lib.hid (by
        have e1 : n - K = (n - (K + 1)) + 1 := by omega
        rw [e1]
        show _ / _ = _
        rw [HN.out]
        have e2 : n - 1 - (n - (K + 1)) = K := by omega
        rw [e2])
      have HV : Hid (valAt l i K = qd l i (n - (K + 1)) % (vrAt l K).lev) := Lib.hid (by
        unfold valAt
        rw [HN.out]
        have e2 : n - 1 - K = n - (K + 1) := by omega
        rw [e2])
      obtain ⟨lv, hlv'⟩ : ∃ lv, (vrAt l K).lev = lv := ⟨_, rfl⟩
      obtain ⟨Q, hQ⟩ : ∃ Q, qd l i (n - (K + 1)) = Q := ⟨_, rfl⟩
      rw [hlv'] at hd1 hlv HQ HV
      rw [hQ] at hq HQ HV ⊢
      clear hlv' hQ
      have hcell := HR.out.cell (i := K) hlt
      have hfr := HR.out.frozen K
      rw [if_neg (by omega)] at hcell
      have hlv0 : ¬ lv = 0 := by omega
      go_wp2
      go_roundw
      case rel =>
        refine ⟨K, by omega, rfl, by rw [HQ.out], (HR.out.set K _).congr (fun j hj => ?_), hx.of_upd ((Upd.refl wo).setCell (S := fun b => b = w.heap.size) _ (fun _ => rfl)) (fun b hb => by omega)⟩
        by_cases e : j = K
        · subst e; rw [if_pos rfl, if_pos (Nat.le_refl _), HV.out]
        · rw [if_neg e]
          by_cases e2 : K ≤ j
          · rw [if_pos e2, if_pos (by omega)]
          · rw [if_neg e2, if_neg (by omega)]
      case measure => simp [intOf]

set_option maxHeartbeats 800000 in
theorem l1Find_at (v : Value) (xs : List Int) (n : Int) (r : Nat) (w : World) (h : Ints w v xs) (hr : r < xs.length ∧ ix xs r = n ∧ ∀ j, j < r → ix xs j ≠ n) :
    Calls Try.prog 56 #[v, .int .i64 n] w fun e w' => e = .returned (.int .i64 r) ∧ w' = w := by
  obtain ⟨ao, cap, rfl, h1, h2, h3⟩ := h
  have G := Lib.hid h3; clear h3
  have HR := Lib.hid hr
  have hr1 := hr.1; clear hr
  go_enter Try.func56, Try.ntmps56
  go_wp2
  go_loop [9] (fun i => ∃ k : Nat, k ≤ r ∧ i = .int .i64 k) (fun i => xs.length - (intOf i).toNat)
  case atStart => exact ⟨0, Nat.zero_le _, rfl⟩
  case round =>
    obtain ⟨k, hk, rfl⟩ := hrel
    have hlt : k < xs.length := by omega
    obtain ⟨b, o, rfl, hc⟩ := G.out k hlt
    by_cases he : k = r
    · have hq : (ix xs k == n) = true := by rw [he, HR.out.2.1]; simp
      have HE := Lib.hid he; clear he
      go_wp2
      go_ret
      exact ⟨ret_int (by rw [HE.out]), rfl⟩
    · have hq : (ix xs k == n) = false := by simp; exact HR.out.2.2 k (by omega)
      go_wp2
      go_round
      case rel => exact ⟨k + 1, by omega, by go_num⟩
      case measure => simp [intOf]; omega

set_option maxHeartbeats 800000 in
theorem index_at (v : Value) (xs : List Int) (n : Int) (r : Nat) (w : World) (h : Ints w v xs) (hr : r < xs.length ∧ ix xs r = n ∧ ∀ j, j < r → ix xs j ≠ n) :
    Calls Try.prog 91 #[v, .int .i64 n] w fun e w' => e = .returned (.int .i64 r) ∧ w' = w := by
  obtain ⟨ao, cap, rfl, h1, h2, h3⟩ := h
  have G := Lib.hid h3; clear h3
  have HR := Lib.hid hr
  have hr1 := hr.1; clear hr
  go_enter Try.func91, Try.ntmps91
  go_wp2
  go_loop [8] (fun i => ∃ k : Nat, k ≤ r ∧ i = .int .i64 k) (fun i => xs.length - (intOf i).toNat)
  case atStart => exact ⟨0, Nat.zero_le _, rfl⟩
  case round =>
    obtain ⟨k, hk, rfl⟩ := hrel
    have hlt : k < xs.length := by omega
    obtain ⟨b, o, rfl, hc⟩ := G.out k hlt
    by_cases he : k = r
    · have hq : (n == ix xs k) = true := by rw [he, HR.out.2.1]; simp
      have HE := Lib.hid he; clear he
      go_wp2
      go_ret
      exact ⟨ret_int (by rw [HE.out]), rfl⟩
    · have hq : (n == ix xs k) = false := by simp; exact fun e => HR.out.2.2 k (by omega) e.symm
      go_wp2
      go_round
      case rel => exact ⟨k + 1, by omega, by go_num⟩
      case measure => simp [intOf]; omega
set_option maxHeartbeats 800000 in
theorem index_none (v : Value) (xs : List Int) (n : Int) (w : World) (h : Ints w v xs) (hr : ∀ j, j < xs.length → ix xs j ≠ n) :
    Calls Try.prog 91 #[v, .int .i64 n] w fun e w' => e = .returned (.int .i64 (-1)) ∧ w' = w := by
  obtain ⟨ao, cap, rfl, h1, h2, h3⟩ := h
  have G := Lib.hid h3; clear h3
  have HR := Lib.hid hr; clear hr
  go_enter Try.func91, Try.ntmps91
  go_wp2
  go_loop [8] (fun i => ∃ k : Nat, k ≤ xs.length ∧ i = .int .i64 k) (fun i => xs.length - (intOf i).toNat)
  case atStart => exact ⟨0, Nat.zero_le _, rfl⟩
  case round =>
    obtain ⟨k, hk, rfl⟩ := hrel
    by_cases hlt : k < xs.length
    · obtain ⟨b, o, rfl, hc⟩ := G.out k hlt
      have hq : (n == ix xs k) = false := by simp; exact fun e => HR.out k hlt e.symm
      go_wp2
      go_round
      case rel => exact ⟨k + 1, by omega, by go_num⟩
      case measure => simp [intOf]; omega
    · go_wp2
      go_ret
      exact ⟨rfl, rfl⟩

set_option maxHeartbeats 1600000 in
theorem sIndex_c (v1 v2 : Value) (l : List Vr) (xs : List Int) (w : World) (h1 : Vrs w v1 l) (h2 : Ints w v2 xs) (hl : LevP l) (hf : FitV l xs) :
    Calls Try.prog 59 #[v1, v2] w fun e w' => e = .returned (.int .i64 (idxL l xs)) ∧ Ext w w' := by
  obtain ⟨a1, c1, rfl, e1, e2, g1⟩ := h1
  obtain ⟨a2, c2, rfl, e3, e4, g2⟩ := h2
  have G1 := Lib.hid g1; clear g1
  have G2 := Lib.hid g2; clear g2
  have h6 := hl.1
  have HL := Lib.hid hl; clear hl
  have HF := Lib.hid hf
  have hxl := hf.1; clear hf
  obtain ⟨n, hn⟩ : ∃ n, l.length = n := ⟨_, rfl⟩
  rw [hn] at e1 h6 hxl ⊢
  rw [hxl] at e3 ⊢
  have HXL := Lib.hid hxl; clear hxl
  have HN := Lib.hid hn; clear hn
  go_enter Try.func59, Try.ntmps59
  go_wp2_with fail
  go_loopw [5, 10] (fun r i wr => ∃ k : Nat, k ≤ n ∧ i = .int .i64 k ∧ r = .int .i64 (idxTo l xs k) ∧ Ext w wr) (fun _ i _ => n - (intOf i).toNat)
  case atStart => exact ⟨0, Nat.zero_le _, rfl, rfl, Ext.refl w⟩
  case round =>
    obtain ⟨k, hk, rfl, rfl, hx⟩ := hrel
    obtain ⟨wo, rfl⟩ : ∃ wo : World, wo = wr := ⟨_, rfl⟩
    by_cases hlt : k < n
    · obtain ⟨b1, o1, rfl, hd0, hd1⟩ := (G1.out.ext hx).at_ (k := k) (by rw [HN.out]; exact hlt)
      obtain ⟨b2, o2, rfl, hc0⟩ := G2.out k (by rw [HXL.out]; exact hlt)
      have hb := idxTo_bound HL.out HF.out k (by rw [HN.out]; exact hk)
      have hb1 := cntTo_lt HL.out k (by rw [HN.out]; exact hk)
      have hb2 := idxTo_bound HL.out HF.out (k + 1) (by rw [HN.out]; exact hlt)
      have hb3 := cntTo_lt HL.out (k + 1) (by rw [HN.out]; exact hlt)
      have HKT : Hid (idxTo l xs (k + 1) = idxTo l xs k * (vrAt l k).lev + ix xs k) := Lib.hid rfl
      have hlv := HL.out.2 k (by rw [HN.out]; exact hlt)
      have hxv := HF.out.2 k (by rw [HN.out]; exact hlt)
      obtain ⟨nm, hnm⟩ : ∃ nm, (vrAt l k).name = nm := ⟨_, rfl⟩
      obtain ⟨lv, hlv'⟩ : ∃ lv, (vrAt l k).lev = lv := ⟨_, rfl⟩
      obtain ⟨X, hX⟩ : ∃ X, ix xs k = X := ⟨_, rfl⟩
      obtain ⟨K, hKe⟩ : ∃ K, idxTo l xs k = K := ⟨_, rfl⟩
      obtain ⟨K2, hKe2⟩ : ∃ K, idxTo l xs (k + 1) = K := ⟨_, rfl⟩
      obtain ⟨C1, hC1⟩ : ∃ C, cntTo l k = C := ⟨_, rfl⟩
      obtain ⟨C2, hC2⟩ : ∃ C, cntTo l (k + 1) = C := ⟨_, rfl⟩
      rw [hnm] at hd0
      rw [hlv'] at hd1 hlv HKT hxv
      rw [hX] at hc0 hxv HKT
      rw [hKe] at hb HKT ⊢
      rw [hKe2] at hb2 HKT
      rw [hC1] at hb hb1
      rw [hC2] at hb2 hb3
      have HK2 := Lib.hid hKe2
      clear hnm hlv' hKe hKe2 hX hC1 hC2
      have hm1 : 0 ≤ K * lv ∧ K * lv ≤ 262144 := by
        have e := HKT.out
        have m1 : 0 ≤ K * lv := Int.mul_nonneg hb.1 (by omega)
        omega
      have hw1 : IntKind.i64.wrap (K * lv) = K * lv := IntWalk.i64_in _ (by omega)
      have hw2 : IntKind.i64.wrap (K * lv + X) = K2 := by rw [← HKT.out]; exact IntWalk.i64_in _ (by omega)
      have bx := Box.new wo 67 #[.string nm, .int .i64 lv] rfl
      have k1 := bx.cell 1 (by simp)
      have ux := (Ext.refl wo).alloc (.cells #[.string nm, .int .i64 lv] 67)
      have hc1 := Ext.cell (hx.trans ux) hc0
      clear hb hb2 hxv hlv
      go_wp2_with fail
      go_quiet (fail)
      go_wp2
      go_roundw
      case rel => exact ⟨k + 1, by omega, by go_num, by rw [HK2.out], (hx.alloc _).drewN _⟩
      case measure => simp [intOf]; omega
    · have hkl : k = n := by omega
      have HKL := Lib.hid hkl; clear hkl
      go_wp2
      go_ret
      exact ⟨ret_int (by rw [HKL.out, ← HN.out]; rfl), hx⟩

set_option maxHeartbeats 1600000 in
theorem indexOfValues_c (v1 v2 : Value) (l : List Vr) (xs : List Int) (w : World) (h1 : Vrs w v1 l) (h2 : Ints w v2 xs) (hl : LevP l) (hf : FitV l xs) :
    Calls Try.prog 101 #[v1, v2] w fun e w' => e = .returned (.int .i64 (idxL l xs)) ∧ w' = w := by
  obtain ⟨a1, c1, rfl, e1, e2, g1⟩ := h1
  obtain ⟨a2, c2, rfl, e3, e4, g2⟩ := h2
  have G1 := Lib.hid g1; clear g1
  have G2 := Lib.hid g2; clear g2
  have h6 := hl.1
  have HL := Lib.hid hl; clear hl
  have HF := Lib.hid hf
  have hxl := hf.1; clear hf
  obtain ⟨n, hn⟩ : ∃ n, l.length = n := ⟨_, rfl⟩
  rw [hn] at e1 h6 hxl ⊢
  rw [hxl] at e3 ⊢
  have HXL := Lib.hid hxl; clear hxl
  have HN := Lib.hid hn; clear hn
  go_enter Try.func101, Try.ntmps101
  go_wp2_with fail
  go_loop [5, 10] (fun r i => ∃ k : Nat, k ≤ n ∧ i = .int .i64 k ∧ r = .int .i64 (idxTo l xs k)) (fun _ i => n - (intOf i).toNat)
  case atStart => exact ⟨0, Nat.zero_le _, rfl, rfl⟩
  case round =>
    obtain ⟨k, hk, rfl, rfl⟩ := hrel
    by_cases hlt : k < n
    · obtain ⟨b1, o1, rfl, hd0, hd1⟩ := (G1.out).at_ (k := k) (by rw [HN.out]; exact hlt)
      obtain ⟨b2, o2, rfl, hc0⟩ := G2.out k (by rw [HXL.out]; exact hlt)
      have hb := idxTo_bound HL.out HF.out k (by rw [HN.out]; exact hk)
      have hb1 := cntTo_lt HL.out k (by rw [HN.out]; exact hk)
      have hb2 := idxTo_bound HL.out HF.out (k + 1) (by rw [HN.out]; exact hlt)
      have hb3 := cntTo_lt HL.out (k + 1) (by rw [HN.out]; exact hlt)
      have HKT : Hid (idxTo l xs (k + 1) = idxTo l xs k * (vrAt l k).lev + ix xs k) := Lib.hid rfl
      have hlv := HL.out.2 k (by rw [HN.out]; exact hlt)
      have hxv := HF.out.2 k (by rw [HN.out]; exact hlt)
      obtain ⟨lv, hlv'⟩ : ∃ lv, (vrAt l k).lev = lv := ⟨_, rfl⟩
      obtain ⟨X, hX⟩ : ∃ X, ix xs k = X := ⟨_, rfl⟩
      obtain ⟨K, hKe⟩ : ∃ K, idxTo l xs k = K := ⟨_, rfl⟩
      obtain ⟨K2, hKe2⟩ : ∃ K, idxTo l xs (k + 1) = K := ⟨_, rfl⟩
      obtain ⟨C1, hC1⟩ : ∃ C, cntTo l k = C := ⟨_, rfl⟩
      obtain ⟨C2, hC2⟩ : ∃ C, cntTo l (k + 1) = C := ⟨_, rfl⟩
      rw [hlv'] at hd1 hlv HKT hxv
      rw [hX] at hc0 hxv HKT
      rw [hKe] at hb HKT ⊢
      rw [hKe2] at hb2 HKT
      rw [hC1] at hb hb1
      rw [hC2] at hb2 hb3
      have HK2 := Lib.hid hKe2
      clear hlv' hKe hKe2 hX hC1 hC2
      have hm1 : 0 ≤ K * lv ∧ K * lv ≤ 262144 := by
        have e := HKT.out
        have m1 : 0 ≤ K * lv := Int.mul_nonneg hb.1 (by omega)
        omega
      have hw1 : IntKind.i64.wrap (K * lv) = K * lv := IntWalk.i64_in _ (by omega)
      have hw2 : IntKind.i64.wrap (K * lv + X) = K2 := by rw [← HKT.out]; exact IntWalk.i64_in _ (by omega)
      clear hb hb2 hxv hlv hd0
      go_wp2
      go_round
      case rel => exact ⟨k + 1, by omega, by go_num, by rw [HK2.out]⟩
      case measure => simp [intOf]; omega
    · have hkl : k = n := by omega
      have HKL := Lib.hid hkl; clear hkl
      go_wp2
      go_ret
      exact ⟨ret_int (by rw [HKL.out, ← HN.out]; rfl), rfl⟩

set_option maxHeartbeats 1600000 in
theorem sPick_c (v1 v2 : Value) (xs vars : List Int) (n : Int) (w : World) (h1 : Ints w v1 xs) (h2 : Ints w v2 vars) (hr : Rising n vars) (hn : n = xs.length) (hk6 : vars.length ≤ 6) :
    Calls Try.prog 60 #[v1, v2] w fun e w' => ∃ v', e = .returned v' ∧ Ints w' v' (pickL xs vars) ∧ Ext w w' := by
  obtain ⟨a1, c1, rfl, e1, e2, g1⟩ := h1
  obtain ⟨a2, c2, rfl, e3, e4, g2⟩ := h2
  have G1 := Lib.hid g1; clear g1
  have G2 := Lib.hid g2; clear g2
  subst hn
  have HK := Lib.hid hr; clear hr
  go_enter Try.func60, Try.ntmps60
  go_wp2
  go_loopw [5, 10] (fun r i wr => ∃ k : Nat, k ≤ vars.length ∧ i = .int .i64 k ∧ IRow w.heap.size wr r (pickL xs (vars.take k)) ∧ Ext w wr) (fun _ i _ => vars.length - (intOf i).toNat)
  case atStart => exact ⟨0, Nat.zero_le _, rfl, by simpa [pickL] using IRow.nil, Ext.refl w⟩
  case round =>
    obtain ⟨k, hk, rfl, hr, hx⟩ := hrel
    obtain ⟨wo, rfl⟩ : ∃ wo : World, wo = wr := ⟨_, rfl⟩
    have HR := Lib.hid hr; clear hr
    by_cases hlt : k < vars.length
    · obtain ⟨b2, o2, rfl, hc⟩ := G2.out k hlt
      have hc' := Ext.cell hx hc
      obtain ⟨i, ei, hi2⟩ : ∃ i : Nat, ix vars k = i ∧ i < xs.length := by
        have h1 := (HK.out k hlt).1
        exact ⟨(ix vars k).toNat, by omega, by omega⟩
      have HE : Hid ((ix vars k).toNat = i) := Lib.hid (by omega)
      rw [ei] at hc'
      obtain ⟨b1, o1, rfl, hd0'⟩ := G1.out i hi2
      have hd0 := Ext.cell hx hd0'
      have HPT := Lib.hid (pickL_take (xs := xs) hlt)
      rw [HE.out] at HPT
      clear ei hc hd0'
      obtain ⟨x, hxe⟩ : ∃ x, ix xs i = x := ⟨_, rfl⟩
      rw [hxe] at hd0 HPT
      clear hxe
      have hlen : (pickL xs (vars.take k)).length = k := by simp [pickL]; omega
      have hown := HR.out.ext ((Ext.refl wo).alloc (.cells #[.int .i64 x] 3))
      have HOWN := Lib.hid hown
      unfold IRow at hown
      rw [hlen] at hown
      have HOW2 := Lib.hid hown; clear hown
      have HLEN := Lib.hid hlen; clear hlen
      have hs := hx.size
      go_wp2_with (at_builtin; go_loud (refine app1 _ rfl _ _ 22 3 rfl (.int .i64 0) 8 Try.underlying22 info_int rfl w.heap.size _ k _ rfl HOW2.out wo.heap.size 1 3 (.int .i64 x) rfl (Box.new _ _ _ rfl) rfl (by omega) (by omega) (by simp; omega) ?_))
      intro g cp w3 hown3 hgrow hat hlt3
      have hx3 := HOWN.out.grew (hx.alloc _) (Nat.le_refl _) hgrow
      have HO3 := Lib.hid hown3; clear hown3
      have HX3 := Lib.hid hx3; clear hx3
      clear hgrow
      go_wp2
      go_roundw
      case rel => exact ⟨k + 1, by omega, by go_num, by rw [HPT.out]; exact IRow.push (by rw [HLEN.out]; exact HO3.out), HX3.out⟩
      case measure => simp [intOf]; omega
    · have hkl : vars.take k = vars := List.take_of_length_le (by omega)
      have HKL := Lib.hid hkl; clear hkl
      go_wp2
      go_ret
      refine ⟨_, rfl, ?_, hx⟩
      have := (HR.out.own (Nat.le_refl _)).ints
      rwa [HKL.out] at this

set_option maxHeartbeats 800000 in
theorem areSmall_b (b : Bool) (v : Value) (xs : List Int) (n : Int) (w : World) (hb : (decide ((xs.length : Int) = n) && allIn (-1000000) 1000000 xs) = b) (h : Ints w v xs) :
    Calls Try.prog 63 #[v, .int .i64 n] w fun e w' => e = .returned (.bool b) ∧ w' = w := by
  subst hb
  obtain ⟨ao, cap, rfl, h1, h2, h3⟩ := h
  have G := Lib.hid h3; clear h3
  by_cases hn : (xs.length : Int) = n
  · have hq : ((xs.length : Int) != n) = false := by simp [hn]
    have HB0 : Hid ((decide ((xs.length : Int) = n) && allIn (-1000000) 1000000 xs) = allIn (-1000000) 1000000 xs) := Lib.hid (by simp [hn])
    rw [HB0.out]
    clear hn HB0
    go_enter Try.func63, Try.ntmps63
    go_wp2
    go_loop [13] (fun i => ∃ k : Nat, k ≤ xs.length ∧ i = .int .i64 k ∧ ∀ j, j < k → -1000000 ≤ ix xs j ∧ ix xs j ≤ 1000000) (fun i => xs.length - (intOf i).toNat)
    case atStart => exact ⟨0, Nat.zero_le _, rfl, fun j hj => by omega⟩
    case round =>
      obtain ⟨k, hk, rfl, hj⟩ := hrel
      have HJ := Lib.hid hj; clear hj
      by_cases hlt : k < xs.length
      · obtain ⟨b, o, rfl, hc⟩ := G.out k hlt
        have HNO : Hid (¬ (-1000000 ≤ ix xs k ∧ ix xs k ≤ 1000000) → allIn (-1000000) 1000000 xs = false) := Lib.hid (fun h => by
          unfold allIn
          rw [List.all_eq_false]
          exact ⟨_, ix_mem hlt, by simpa using h⟩)
        obtain ⟨X, hX⟩ : ∃ X, ix xs k = X := ⟨_, rfl⟩
        rw [hX] at hc HNO
        have HX := Lib.hid hX; clear hX
        by_cases h1 : X < -1000000
        · go_wp2
          go_ret
          exact ⟨ret_bool (HNO.out (by omega)).symm, rfl⟩
        · by_cases h2 : 1000000 < X
          · go_wp2
            go_ret
            exact ⟨ret_bool (HNO.out (by omega)).symm, rfl⟩
          · go_wp2
            go_round
            case rel => exact ⟨k + 1, by omega, by go_num, fun j hj => by
              by_cases e : j = k
              · subst e; rw [HX.out]; omega
              · exact HJ.out j (by omega)⟩
            case measure => simp [intOf]; omega
      · go_wp2
        go_ret
        refine ⟨ret_bool ?_, rfl⟩
        symm
        unfold allIn
        rw [List.all_eq_true]
        intro x hx
        obtain ⟨j, hj, rfl⟩ := List.getElem_of_mem hx
        have := HJ.out j (by omega)
        rw [ix_eq hj] at this
        simpa using this
  · have hq : ((xs.length : Int) != n) = true := by simp [hn]
    have HB0 : Hid ((decide ((xs.length : Int) = n) && allIn (-1000000) 1000000 xs) = false) := Lib.hid (by simp [hn])
    rw [HB0.out]
    clear hn HB0
    go_enter Try.func63, Try.ntmps63
    go_wp2
    go_ret
    exact ⟨rfl, rfl⟩
end Go.Proofs.Ytolmmhdeebgglaa
