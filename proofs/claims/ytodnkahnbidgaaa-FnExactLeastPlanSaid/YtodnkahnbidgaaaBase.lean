/- Contracts of the laws' own helpers over slices of ints and slices of such slices: copies, comparisons, marks, sizes. -/
import Derived.Test.YtodnkahnbidgaaaProg
import Derived.Test.YtodnkahnbidgaaaLib
namespace Go.Proofs.Ytodnkahnbidgaaa
open Go.RowKit

theorem info_int : (Try.prog.info? 3).map (fun i => (i.zero, i.size, i.bytes)) = some (some (.int .i64 0), 1, 8) := by kernel_rfl
theorem info_ints : (Try.prog.info? 36).map (fun i => (i.zero, i.size, i.bytes)) = some (some (.slice none 0 0), 1, 24) := by kernel_rfl

set_option maxHeartbeats 400000 in
theorem toIntS_c (v : Value) (xs : List Int) (w : World) (h : Ints w v xs) (hl : xs.length ≤ 1048576) :
    Calls Try.prog 26 #[v] w fun e w' => ∃ v', e = .returned v' ∧ Own w.heap.size w'.heap.size w' v' xs ∧ Ext w w' := by
  obtain ⟨ao, cap, rfl, h1, h2, h3⟩ := h
  have G := Lib.hid h3; clear h3
  have hmk := run_make_row' (P := Try.prog) 36 3 (.int .i64 0) 8 Try.underlying36 info_int rfl .i64 .i64 xs.length (by omega) (by omega)
  go_enter Try.func26, Try.ntmps26
  go_wp2
  go_loopw [4] (fun i wr => ∃ k : Nat, k ≤ xs.length ∧ i = .int .i64 k ∧ wr.rowIs w.heap.size 3 xs.length (fun j => if j < k then .int .i64 (ix xs j) else .int .i64 0) ∧ Ext w wr) (fun i _ => xs.length - (intOf i).toNat)
  case atStart => exact ⟨0, Nat.zero_le _, rfl, (World.rowIs_made _ _ _ _).congr (fun j _ => by simp), (Ext.refl _).alloc _⟩
  case round =>
    obtain ⟨k, hk, rfl, hrow, hx⟩ := hrel
    have HR := Lib.hid hrow
    by_cases hlt : k < xs.length
    · obtain ⟨b, o, rfl, hc⟩ := G.out k hlt
      have hc' := hx.cell hc
      have hfr := hrow.frozen k
      have hcell := hrow.cell hlt
      clear hrow
      go_wp2
      go_roundw
      case rel =>
        refine ⟨k + 1, by omega, by go_num, (HR.out.set k _).congr (fun j hj => ?_), hx.setCell _ (Nat.le_refl _)⟩
        by_cases e : j = k
        · subst e; simp
        · have : (j < k + 1) = (j < k) := by apply propext; omega
          simp [e, this]
      case measure => simp [intOf]; omega
    · clear hrow
      go_wp2
      go_ret
      exact ⟨_, rfl, Own.of_rowIs HR.out rfl (fun j hj => by rw [if_pos (by omega)]) (Nat.le_refl _) HR.out.lt (by omega), hx⟩

set_option maxHeartbeats 400000 in
theorem eqIntS_c (v1 v2 : Value) (xs ys : List Int) (w : World) (h1 : Ints w v1 xs) (h2 : Ints w v2 ys) :
    Calls Try.prog 32 #[v1, v2] w fun e w' => e = .returned (.bool (decide (xs = ys))) ∧ ∃ n, w' = w.drewN n := by
  obtain ⟨a1, c1, rfl, e1, e2, g1⟩ := h1
  obtain ⟨a2, c2, rfl, e3, e4, g2⟩ := h2
  have G1 := Lib.hid g1; clear g1
  have G2 := Lib.hid g2; clear g2
  have hl1 : xs.length ≤ 9223372036854775807 := by omega
  have hl2 : ys.length ≤ 9223372036854775807 := by omega
  go_enter Try.func32, Try.ntmps32
  by_cases hl : xs.length = ys.length
  · have hb : ((xs.length : Int) != (ys.length : Int)) = false := by simp [hl]
    have HL := Lib.hid hl; clear hl
    go_wp2
    go_loopw [5] (fun i wr => ∃ k : Nat, k ≤ xs.length ∧ i = .int .i64 k ∧ (∀ j, j < k → ix xs j = ix ys j) ∧ ∃ n, wr = w.drewN n) (fun i _ => xs.length - (intOf i).toNat)
    case atStart => exact ⟨0, Nat.zero_le _, rfl, fun j hj => by omega, 0, rfl⟩
    case round =>
      obtain ⟨k, hk, rfl, hj, n, rfl⟩ := hrel
      have HJ := Lib.hid hj; clear hj
      by_cases hlt : k < xs.length
      · have hlt2 : k < ys.length := by rw [← HL.out]; exact hlt
        obtain ⟨b1, o1, rfl, d1⟩ := G1.out k hlt
        obtain ⟨b2, o2, rfl, d2⟩ := G2.out k hlt2
        have hk0 : (0 : Int) ≤ (k : Int) := by omega
        have hk1 : (k : Int) < (xs.length : Int) := by omega
        have hk2 : (k : Int) < (ys.length : Int) := by omega
        by_cases he : ix xs k = ix ys k
        · have hne : (ix xs k != ix ys k) = false := by simp [he]
          have HE := Lib.hid he; clear he
          go_wp2_with fail
          go_quiet (fail)
          go_wp2
          go_roundw
          case rel => exact ⟨k + 1, by omega, by go_num, fun j hj => by
            by_cases e : j = k
            · subst e; exact HE.out
            · exact HJ.out j (by omega), n + nq, by simp⟩
          case measure => simp [intOf]; omega
        · have hne : (ix xs k != ix ys k) = true := by simp [he]
          have HE := Lib.hid he; clear he
          go_wp2_with fail
          go_quiet (fail)
          go_wp2
          go_ret
          refine ⟨ret_bool ?_, n + nq, by simp⟩
          have : xs ≠ ys := fun e => HE.out (by rw [e])
          simp [this]
      · go_wp2
        go_ret
        refine ⟨ret_bool ?_, _, rfl⟩
        have : xs = ys := list_ext_ix HL.out (fun j hj => HJ.out j (by omega))
        simp [this]
  · have hb : ((xs.length : Int) != (ys.length : Int)) = true := by simp; omega
    go_wp2
    go_ret
    refine ⟨ret_bool ?_, 0, rfl⟩
    have : xs ≠ ys := fun e => hl (by rw [e])
    simp [this]

theorem eqIntS_b (b : Bool) (v1 v2 : Value) (xs ys : List Int) (w : World) (hb : decide (xs = ys) = b) (h1 : Ints w v1 xs) (h2 : Ints w v2 ys) :
    Calls Try.prog 32 #[v1, v2] w fun e w' => e = .returned (.bool b) ∧ ∃ n, w' = w.drewN n := by
  subst hb; exact eqIntS_c v1 v2 xs ys w h1 h2

set_option maxHeartbeats 400000 in
theorem markIntS_c (lo hi : Nat) (v : Value) (xs : List Int) (k0 : Int) (w : World) (h : Own lo hi w v xs) (hl : xs.length ≤ 1048576) (hk0 : 0 ≤ k0 ∧ k0 ≤ 1099511627776) :
    Calls Try.prog 33 #[v, .int .i64 k0] w fun e w' => e = .returned (.int .i64 (k0 + xs.length)) ∧ Own lo hi w' v (seqI k0 xs.length) ∧ Upd (fun b => xs ≠ [] ∧ b = blk v) w w' := by
  obtain ⟨ao, cap, rfl, h1, h2, h3⟩ := h
  have G := Lib.hid h3; clear h3
  go_enter Try.func33, Try.ntmps33
  go_wp2
  go_loopw [1, 5] (fun s i wr => ∃ (k : Nat) (ys : List Int), k ≤ xs.length ∧ i = .int .i64 k ∧ s = .int .i64 (k0 + k) ∧ ys.length = xs.length ∧ (∀ j, j < k → ix ys j = k0 + j) ∧ OwnA lo hi wr ao ys ∧
    Upd (fun b => xs ≠ [] ∧ b = ablk ao) w wr) (fun _ i _ => xs.length - (intOf i).toNat)
  case atStart => exact ⟨0, xs, Nat.zero_le _, rfl, by simp, rfl, fun j hj => by omega, G.out, Upd.refl _⟩
  case round =>
    obtain ⟨k, ys, hk, rfl, rfl, hy, hj, hown, hu⟩ := hrel
    have HJ := Lib.hid hj; clear hj
    have HY := Lib.hid hy; clear hy
    have HO := Lib.hid hown
    by_cases hlt : k < xs.length
    · have hlt2 : k < ys.length := by rw [HY.out]; exact hlt
      obtain ⟨b, o, rfl, l1, l2, l3, hc, hf⟩ := hown.at_ hlt2
      clear hown
      go_wp2
      go_roundw
      case rel =>
        refine ⟨k + 1, ys.set k (k0 + k), by omega, by go_num, by go_num, by simpa using HY.out, fun j hj => ?_, HO.out.set hlt2 _, hu.setCell _ (fun _ => ⟨by intro e; subst e; simp at hlt, rfl⟩)⟩
        rw [ix_set]
        by_cases e : j = k
        · subst e; simp [hlt2]
        · rw [if_neg (fun h => e h.1)]; exact HJ.out j (by omega)
      case measure => simp [intOf]; omega
    · clear hown
      have hkl : k = xs.length := by omega
      have HK := Lib.hid hkl; clear hkl
      go_wp2
      go_ret
      refine ⟨ret_int (by rw [HK.out]), ⟨ao, cap, by rw [seqI_length], by rw [seqI_length]; exact h1, h2, ?_⟩, hu⟩
      have : ys = seqI k0 xs.length := list_ext_ix (by rw [seqI_length]; exact HY.out) (fun j hj => by
        have hj' : j < xs.length := by rw [← HY.out]; exact hj
        rw [ix_seqI hj']; exact HJ.out j (by rw [HK.out]; exact hj'))
      rw [← this]; exact HO.out

set_option maxHeartbeats 400000 in
theorem heldIntS_c (v : Value) (n : Nat) (k0 : Int) (w : World) (h : Ints w v (seqI k0 n)) (hl : n ≤ 1048576) (hk0 : 0 ≤ k0 ∧ k0 ≤ 1099511627776) :
    Calls Try.prog 34 #[v, .int .i64 k0] w fun e w' => e = .returned (.int .i64 (k0 + n)) ∧ w' = w := by
  obtain ⟨ao, cap, rfl, h1, h2, h3⟩ := h
  rw [seqI_length] at *
  have G := Lib.hid h3; clear h3
  go_enter Try.func34, Try.ntmps34
  go_wp2
  go_loop [1, 5] (fun s i => ∃ k : Nat, k ≤ n ∧ i = .int .i64 k ∧ s = .int .i64 (k0 + k)) (fun _ i => n - (intOf i).toNat)
  case atStart => exact ⟨0, Nat.zero_le _, rfl, by simp⟩
  case round =>
    obtain ⟨k, hk, rfl, rfl⟩ := hrel
    by_cases hlt : k < n
    · obtain ⟨b, o, rfl, hc⟩ := G.out k (by rw [seqI_length]; exact hlt)
      rw [ix_seqI hlt] at hc
      have hne : ((k0 + (k : Int)) != (k0 + (k : Int))) = false := by simp
      go_wp2
      go_round
      case rel => exact ⟨k + 1, by omega, by go_num, by go_num⟩
      case measure => simp [intOf]; omega
    · have hkl : k = n := by omega
      have HK := Lib.hid hkl; clear hkl
      go_wp2
      go_ret
      exact ⟨ret_int (by rw [HK.out]), rfl⟩

/-- what szIntS answers -/
def szI (left : Int) (n : Nat) : Int := if left - n < 0 then -1 else left - n
set_option maxHeartbeats 400000 in
theorem szIntS_c (ao : Option Addr) (n cap : Nat) (left : Int) (w : World) (hl : n ≤ 9223372036854775807) (h0 : 0 ≤ left ∧ left ≤ 1048576) :
    Calls Try.prog 20 #[.slice ao n cap, .int .i64 left] w fun e w' => e = .returned (.int .i64 (szI left n)) ∧ w' = w := by
  have h9 : (n : Int) ≤ 9223372036854775807 := by omega
  by_cases h : left - (n : Int) < 0
  · go_enter Try.func20, Try.ntmps20
    go_wp2
    all_goals go_ret
    all_goals exact ⟨ret_int (by unfold szI; split <;> omega), rfl⟩
  · go_enter Try.func20, Try.ntmps20
    go_wp2
    all_goals go_ret
    all_goals exact ⟨ret_int (by unfold szI; split <;> omega), rfl⟩

theorem len_le_sum {xss : List (List Int)} {r : List Int} (h : r ∈ xss) : r.length ≤ (xss.map List.length).sum := by
  induction xss with
  | nil => simp at h
  | cons x xs ih =>
    simp only [List.map_cons, List.sum_cons]
    rcases List.mem_cons.1 h with rfl | h
    · omega
    · have := ih h; omega
def szRows : Int → List (List Int) → Int
  | l, [] => l
  | l, r :: rs => if szI l r.length < 0 then -1 else szRows (szI l r.length) rs
/-- what szIntSS answers -/
def szG (left : Int) (xss : List (List Int)) : Int := if left - xss.length < 0 then -1 else szRows (left - xss.length) xss
theorem szI_cases (left : Int) (n : Nat) : szI left n = -1 ∧ left - n < 0 ∨ szI left n = left - n ∧ 0 ≤ left - n := by
  unfold szI; split <;> omega
theorem szRows_cases (l : Int) (xss : List (List Int)) (h : 0 ≤ l) : szRows l xss = -1 ∨ 0 ≤ szRows l xss ∧ szRows l xss = l - (xss.map List.length).sum := by
  induction xss generalizing l with
  | nil => right; simp [szRows]; exact h
  | cons r rs ih =>
    simp only [szRows]
    rcases szI_cases l r.length with ⟨e, _⟩ | ⟨e, h2⟩
    · rw [e]; simp
    · rw [e, if_neg (by omega)]
      rcases ih (l - r.length) h2 with h3 | h3
      · exact .inl h3
      · refine .inr ⟨h3.1, ?_⟩
        rw [h3.2]; simp only [List.map_cons, List.sum_cons]; omega
/-- where it is not -1 all lengths are small -/
theorem szG_cases (left : Int) (xss : List (List Int)) : szG left xss = -1 ∨ 0 ≤ szG left xss ∧ szG left xss = left - xss.length - (xss.map List.length).sum := by
  unfold szG
  split
  · exact .inl rfl
  · exact szRows_cases _ _ (by omega)
theorem szRows_drop {l : Int} {xss : List (List Int)} {k : Nat} (h : k < xss.length) : szRows l (xss.drop k) = if szI l (rowAt xss k).length < 0 then -1 else szRows (szI l (rowAt xss k).length) (xss.drop (k + 1)) := by
  rw [List.drop_eq_getElem_cons h, rowAt_eq h]; rfl

set_option maxHeartbeats 400000 in
theorem szIntSS_c (v : Value) (xss : List (List Int)) (left : Int) (w : World) (h : Grid w v xss) (h0 : 0 ≤ left ∧ left ≤ 1048576) :
    Calls Try.prog 6 #[v, .int .i64 left] w fun e w' => e = .returned (.int .i64 (szG left xss)) ∧ w' = w := by
  obtain ⟨ao, cap, rfl, h1, h2, h3⟩ := h
  have G := Lib.hid h3; clear h3
  have h9 : (xss.length : Int) ≤ 9223372036854775807 := by omega
  by_cases hb : left - (xss.length : Int) < 0
  · go_enter Try.func6, Try.ntmps6
    go_wp2
    all_goals go_ret
    all_goals exact ⟨ret_int (by unfold szG; rw [if_pos (by omega)]), rfl⟩
  · have hb' : 0 ≤ left - (xss.length : Int) := by omega
    have HB := Lib.hid hb; clear hb
    go_enter Try.func6, Try.ntmps6
    go_wp2
    go_loop [1, 5] (fun s i => ∃ (k : Nat) (l : Int), k ≤ xss.length ∧ i = .int .i64 k ∧ s = .int .i64 l ∧ 0 ≤ l ∧ l ≤ 1048576 ∧ szRows l (xss.drop k) = szG left xss) (fun _ i => xss.length - (intOf i).toNat)
    case atStart => exact ⟨0, left - xss.length, Nat.zero_le _, rfl, rfl, by omega, by omega, by unfold szG; rw [if_neg (by omega)]; simp⟩
    case round =>
      obtain ⟨k, l, hk, rfl, rfl, hl0, hl1, he⟩ := hrel
      have HE := Lib.hid he; clear he
      by_cases hlt : k < xss.length
      · obtain ⟨b, o, ar, cr, rfl, hc, r1, r2, r3⟩ := G.out.at_ hlt
        have R3 := Lib.hid r3; clear r3
        have hs := szRows_drop (l := l) hlt
        rcases szI_cases l (rowAt xss k).length with ⟨e, e2⟩ | ⟨e, e2⟩
        · have E := Lib.hid e; clear e
          have HS := Lib.hid hs; clear hs
          go_wp2_with (go_at_call 20; refine (szIntS_c ar _ cr l _ (by omega) (by omega)).mono ?_; rintro e w' ⟨rfl, rfl⟩; rw [E.out])
          go_ret
          exact ⟨ret_int (by rw [← HE.out, HS.out, E.out]; simp), rfl⟩
        · have E := Lib.hid e; clear e
          have HS := Lib.hid hs; clear hs
          go_wp2_with (go_at_call 20; refine (szIntS_c ar _ cr l _ (by omega) (by omega)).mono ?_; rintro e w' ⟨rfl, rfl⟩; rw [E.out])
          go_round
          case rel => exact ⟨k + 1, l - (rowAt xss k).length, by omega, by go_num, rfl, by omega, by omega, by rw [← HE.out, HS.out, E.out, if_neg (by omega)]⟩
          case measure => simp [intOf]; omega
      · have hkl : k = xss.length := by omega
        have HK := Lib.hid hkl; clear hkl
        go_wp2
        go_ret
        exact ⟨ret_int (by rw [← HE.out, HK.out]; simp [szRows]), rfl⟩

set_option maxHeartbeats 400000 in
theorem toIntSS_c (v : Value) (xss : List (List Int)) (w : World) (h : Grid w v xss) (hl : xss.length ≤ 1048576) (hr : ∀ k, k < xss.length → (rowAt xss k).length ≤ 1048576) :
    Calls Try.prog 8 #[v] w fun e w' => ∃ v' rvs, e = .returned v' ∧ OwnG w.heap.size w'.heap.size w' v' rvs xss ∧ Ext w w' := by
  obtain ⟨ao, cap, rfl, h1, h2, h3⟩ := h
  have G := Lib.hid h3; clear h3
  have HR := Lib.hid hr; clear hr
  have hmk := run_make_row' (P := Try.prog) 22 36 (.slice none 0 0) 24 Try.underlying22 info_ints rfl .i64 .i64 xss.length (by omega) (by omega)
  go_enter Try.func8, Try.ntmps8
  go_wp2
  go_loopw [4] (fun i wr => ∃ (k : Nat) (rvs : List Value), k ≤ xss.length ∧ i = .int .i64 k ∧ rvs.length = k ∧ wr.rowIs w.heap.size 36 xss.length (fun j => if j < k then rvAt rvs j else .slice none 0 0) ∧
    (∀ j, j < k → Own w.heap.size wr.heap.size wr (rvAt rvs j) (rowAt xss j)) ∧
    (∀ i j, i < k → j < k → i ≠ j → rowAt xss i ≠ [] → rowAt xss j ≠ [] → blk (rvAt rvs i) ≠ blk (rvAt rvs j)) ∧ Ext w wr) (fun i _ => xss.length - (intOf i).toNat)
  case atStart => exact ⟨0, [], Nat.zero_le _, rfl, rfl, (World.rowIs_made _ _ _ _).congr (fun j _ => by simp), fun j hj => by omega, fun i j hi => by omega, (Ext.refl _).alloc _⟩
  case round =>
    obtain ⟨k, rvs, hk, rfl, hn, hrow, hown, hd, hx⟩ := hrel
    have HW := Lib.hid hrow
    have HO := Lib.hid hown; clear hown
    have HD := Lib.hid hd; clear hd
    have HN := Lib.hid hn; clear hn
    by_cases hlt : k < xss.length
    · obtain ⟨b, o, ar, cr, rfl, hc, r1, r2, r3⟩ := (G.out.ext hx).at_ hlt
      have R3 := Lib.hid r3; clear r3
      clear hrow
      go_wp2_with fail
      refine (toIntS_c _ (rowAt xss k) wr ⟨ar, cr, rfl, r1, r2, R3.out⟩ (HR.out k hlt)).mono ?_
      rintro e w1 ⟨v', rfl, hown1, hx1⟩
      have HW1 := Lib.hid (rowIs_ext HW.out hx1)
      have hfr := HW1.out.frozen k
      have hcell := HW1.out.cell hlt
      have HO1 := Lib.hid hown1
      obtain ⟨ao', cap', rfl, _, _, _⟩ := hown1
      go_wp2
      go_roundw
      case rel =>
        have hsz : w1.heap.size = (w1.setCell ⟨w.heap.size, k, none⟩ (.slice ao' (rowAt xss k).length cap')).heap.size := by simp [World.setCell]
        have hu : Upd (fun b => b = w.heap.size) w1 (w1.setCell ⟨w.heap.size, k, none⟩ (.slice ao' (rowAt xss k).length cap')) := (Upd.refl _).setCell _ (fun _ => rfl)
        have hold : ∀ j, j < k → rvAt (rvs ++ [.slice ao' (rowAt xss k).length cap']) j = rvAt rvs j := fun j hj => rvAt_append_left (by rw [HN.out]; exact hj)
        have hnew : rvAt (rvs ++ [.slice ao' (rowAt xss k).length cap']) k = .slice ao' (rowAt xss k).length cap' := by
          have := @rvAt_append_len rvs (.slice ao' (rowAt xss k).length cap'); rwa [HN.out] at this
        refine ⟨k + 1, rvs ++ [.slice ao' (rowAt xss k).length cap'], by omega, by go_num, by simp [HN.out], (HW1.out.set k _).congr (fun j hj => ?_), fun j hj => ?_, fun i j hi hj hij hri hrj => ?_, (hx.trans hx1).setCell _ (Nat.le_refl _)⟩
        · by_cases e : j = k
          · subst e; simp [hnew]
          · by_cases e2 : j < k
            · have : j < k + 1 := by omega
              simp [e, e2, this, hold j e2]
            · have : ¬ j < k + 1 := by omega
              simp [e, e2, this]
        · rw [← hsz]
          by_cases e : j = k
          · subst e; rw [hnew]
            exact (HO1.out.upd hu (fun hne => HO1.out.ne_row HW1.out hne)).mono hx.size (Nat.le_refl _)
          · have hj' : j < k := by omega
            rw [hold j hj']
            have h1 := (HO.out j hj').ext hx1
            exact (h1.upd hu (fun hne => h1.ne_row HW1.out hne)).mono (Nat.le_refl _) hx1.size
        · by_cases ei : i = k
          · subst ei
            have hj' : j < i := by omega
            rw [hnew, hold j hj']
            have a1 := HO1.out.range hri
            have a2 := (HO.out j hj').range hrj
            omega
          · have hi' : i < k := by omega
            rw [hold i hi']
            by_cases ej : j = k
            · subst ej
              rw [hnew]
              have a1 := HO1.out.range hrj
              have a2 := (HO.out i hi').range hri
              omega
            · have hj' : j < k := by omega
              rw [hold j hj']; exact HD.out i j hi' hj' hij hri hrj
      case measure => simp [intOf]; omega
    · clear hrow
      have hkl : k = xss.length := by omega
      have HK := Lib.hid hkl; clear hkl
      go_wp2
      go_ret
      refine ⟨_, rvs, rfl, ⟨some ⟨w.heap.size, 0, none⟩, xss.length, rfl, Nat.le_refl _, by omega, HN.out.trans HK.out, ?_, fun j hj => HO.out j (by rw [HK.out]; exact hj), fun i j hi hj => HD.out i j (by rw [HK.out]; exact hi) (by rw [HK.out]; exact hj)⟩, hx⟩
      obtain ⟨c, hb, hs, hc⟩ := HW.out
      have hsz := HW.out.lt
      exact .inr ⟨w.heap.size, 0, c, rfl, Nat.le_refl _, hsz, hb, fun j hj => by rw [Nat.zero_add, hc j hj]; show some (if j < k then rvAt rvs j else Value.slice none 0 0) = _; rw [if_pos (by rw [HK.out]; exact hj)]⟩

set_option maxHeartbeats 400000 in
theorem eqIntSS_c (v1 v2 : Value) (xs ys : List (List Int)) (w : World) (h1 : Grid w v1 xs) (h2 : Grid w v2 ys) :
    Calls Try.prog 10 #[v1, v2] w fun e w' => e = .returned (.bool (decide (xs = ys))) ∧ Drew w w' := by
  obtain ⟨a1, c1, rfl, e1, e2, g1⟩ := h1
  obtain ⟨a2, c2, rfl, e3, e4, g2⟩ := h2
  have G1 := Lib.hid g1; clear g1
  have G2 := Lib.hid g2; clear g2
  have hl1 : xs.length ≤ 9223372036854775807 := by omega
  have hl2 : ys.length ≤ 9223372036854775807 := by omega
  go_enter Try.func10, Try.ntmps10
  by_cases hl : xs.length = ys.length
  · have hb : ((xs.length : Int) != (ys.length : Int)) = false := by simp [hl]
    have HL := Lib.hid hl; clear hl
    go_wp2
    go_loopw [5] (fun i wr => ∃ k : Nat, k ≤ xs.length ∧ i = .int .i64 k ∧ (∀ j, j < k → rowAt xs j = rowAt ys j) ∧ Drew w wr) (fun i _ => xs.length - (intOf i).toNat)
    case atStart => exact ⟨0, Nat.zero_le _, rfl, fun j hj => by omega, Drew.refl _⟩
    case round =>
      obtain ⟨k, hk, rfl, hj, hw⟩ := hrel
      have HW := Lib.hid hw; clear hw
      have HJ := Lib.hid hj; clear hj
      by_cases hlt : k < xs.length
      · have hlt2 : k < ys.length := by rw [← HL.out]; exact hlt
        obtain ⟨b1, o1, ar1, cr1, rfl, d1, p1, p2, p3⟩ := (G1.out.ext HW.out.ext).at_ hlt
        obtain ⟨b2, o2, ar2, cr2, rfl, d2, q1, q2, q3⟩ := (G2.out.ext HW.out.ext).at_ hlt2
        have P3 := Lib.hid p3; clear p3
        have Q3 := Lib.hid q3; clear q3
        have hk0 : (0 : Int) ≤ (k : Int) := by omega
        have hk1 : (k : Int) < (xs.length : Int) := by omega
        have hk2 : (k : Int) < (ys.length : Int) := by omega
        by_cases he : rowAt xs k = rowAt ys k
        · have hdec : decide (rowAt xs k = rowAt ys k) = true := by simp [he]
          have HE := Lib.hid he; clear he
          have HDC := Lib.hid hdec; clear hdec
          go_wp2_with fail
          go_quiet ((go_at_call 32; exact Calls.quiet_of (eqIntS_b true _ _ (rowAt xs k) (rowAt ys k) _ HDC.out ⟨ar1, cr1, rfl, p1, p2, P3.out⟩ ⟨ar2, cr2, rfl, q1, q2, Q3.out⟩)))
          go_wp2
          go_roundw
          case rel => exact ⟨k + 1, by omega, by go_num, fun j hj => by
            by_cases e : j = k
            · subst e; exact HE.out
            · exact HJ.out j (by omega), HW.out.drewN nq⟩
          case measure => simp [intOf]; omega
        · have hdec : decide (rowAt xs k = rowAt ys k) = false := by simp [he]
          have HE := Lib.hid he; clear he
          have HDC := Lib.hid hdec; clear hdec
          go_wp2_with fail
          go_quiet ((go_at_call 32; exact Calls.quiet_of (eqIntS_b false _ _ (rowAt xs k) (rowAt ys k) _ HDC.out ⟨ar1, cr1, rfl, p1, p2, P3.out⟩ ⟨ar2, cr2, rfl, q1, q2, Q3.out⟩)))
          go_wp2
          go_ret
          refine ⟨ret_bool ?_, HW.out.drewN nq⟩
          have : xs ≠ ys := fun e => HE.out (by rw [e])
          simp [this]
      · go_wp2
        go_ret
        refine ⟨ret_bool ?_, HW.out⟩
        have : xs = ys := list_ext_rowAt HL.out (fun j hj => HJ.out j (by omega))
        simp [this]
  · have hb : ((xs.length : Int) != (ys.length : Int)) = true := by simp; omega
    go_wp2
    go_ret
    refine ⟨ret_bool ?_, Drew.refl _⟩
    have : xs ≠ ys := fun e => hl (by rw [e])
    simp [this]

theorem eqIntSS_b (b : Bool) (v1 v2 : Value) (xs ys : List (List Int)) (w : World) (hb : decide (xs = ys) = b) (h1 : Grid w v1 xs) (h2 : Grid w v2 ys) :
    Calls Try.prog 10 #[v1, v2] w fun e w' => e = .returned (.bool b) ∧ Drew w w' := by
  subst hb; exact eqIntSS_c v1 v2 xs ys w h1 h2

set_option maxHeartbeats 400000 in
theorem markIntSS_c (lo hi : Nat) (v : Value) (rvs : List Value) (xss : List (List Int)) (k0 : Int) (w : World) (h : OwnG lo hi w v rvs xss)
    (hr : ∀ k, k < xss.length → (rowAt xss k).length ≤ 1048576) (hp : ∀ k, k ≤ xss.length → psum xss k ≤ 1048576) (hk0 : 0 ≤ k0 ∧ k0 ≤ 1099510579200) :
    Calls Try.prog 11 #[v, .int .i64 k0] w fun e w' => e = .returned (.int .i64 (k0 + psum xss xss.length)) ∧ (∃ yss, OwnG lo hi w' v rvs yss ∧ MarkedG k0 xss yss) ∧ Upd (rowBlks rvs xss) w w' := by
  obtain ⟨ao, cap, rfl, h1, h2, h3⟩ := h
  have G := Lib.hid h3; clear h3
  have HR := Lib.hid hr; clear hr
  have HP := Lib.hid hp; clear hp
  go_enter Try.func11, Try.ntmps11
  go_wp2
  go_loopw [1, 5] (fun s i wr => ∃ (k : Nat) (yss : List (List Int)), k ≤ xss.length ∧ i = .int .i64 k ∧ s = .int .i64 (k0 + psum xss k) ∧ yss.length = xss.length ∧
    (∀ r, r < k → rowAt yss r = seqI (k0 + psum xss r) (rowAt xss r).length) ∧ (∀ r, k ≤ r → rowAt yss r = rowAt xss r) ∧ OwnGA lo hi wr ao rvs yss ∧ Upd (rowBlks rvs xss) w wr) (fun _ i _ => xss.length - (intOf i).toNat)
  case atStart => exact ⟨0, xss, Nat.zero_le _, rfl, by simp [psum_zero], rfl, fun r hr => by omega, fun _ _ => rfl, G.out, Upd.refl _⟩
  case round =>
    obtain ⟨k, yss, hk, rfl, rfl, hy, hm, ho, hown, hu⟩ := hrel
    have HY := Lib.hid hy; clear hy
    have HM := Lib.hid hm; clear hm
    have HO := Lib.hid ho; clear ho
    have HW := Lib.hid hown
    have hps := HP.out k hk
    by_cases hlt : k < xss.length
    · have hlt2 : k < yss.length := by rw [HY.out]; exact hlt
      obtain ⟨b, o, rfl, l1, l2, l3, hc, hf⟩ := hown.at_ hlt2
      clear hown
      have hsame := HO.out k (Nat.le_refl _)
      have hown := HW.out.row k hlt2
      rw [hsame] at hown
      have HS := Lib.hid hsame; clear hsame
      have HN := Lib.hid hown; clear hown
      go_wp2_with fail
      refine (markIntS_c lo hi _ (rowAt xss k) (k0 + psum xss k) wr HN.out (HR.out k hlt) (by omega)).mono ?_
      rintro e w1 ⟨rfl, hown1, hu1⟩
      have hps2 := HP.out (k + 1) hlt
      rw [psum_succ hlt] at hps2
      go_wp2
      go_roundw
      case rel =>
        refine ⟨k + 1, yss.set k (seqI (k0 + psum xss k) (rowAt xss k).length), by omega, by go_num, by rw [psum_succ hlt]; go_num, by simpa using HY.out, fun r hr => ?_, fun r hr => ?_, ?_, hu.trans (hu1.mono (fun b _ hb => ⟨k, hlt, hb.1, hb.2⟩))⟩
        · rw [rowAt_set]
          by_cases e : r = k
          · subst e; rw [if_pos ⟨rfl, hlt2⟩]
          · rw [if_neg (fun h => e h.1)]; exact HM.out r (by omega)
        · rw [rowAt_set, if_neg (fun h => by omega)]; exact HO.out r (by omega)
        · exact HW.out.put hlt2 (by rw [seqI_length, HS.out]) hown1 (by rw [HS.out]; exact hu1)
      case measure => simp [intOf]; omega
    · clear hown
      have hkl : k = xss.length := by omega
      have HK := Lib.hid hkl; clear hkl
      go_wp2
      go_ret
      exact ⟨ret_int (by rw [HK.out]), ⟨yss, ⟨ao, cap, by rw [HY.out], by rw [HY.out]; exact h1, h2, HW.out⟩, HY.out, fun r hr => HM.out r (by rw [HK.out]; exact hr)⟩, hu⟩

set_option maxHeartbeats 400000 in
theorem heldIntSS_c (v : Value) (xss yss : List (List Int)) (k0 : Int) (w : World) (h : Grid w v yss) (hm : MarkedG k0 xss yss)
    (hr : ∀ k, k < xss.length → (rowAt xss k).length ≤ 1048576) (hp : ∀ k, k ≤ xss.length → psum xss k ≤ 1048576) (hk0 : 0 ≤ k0 ∧ k0 ≤ 1099510579200) :
    Calls Try.prog 12 #[v, .int .i64 k0] w fun e w' => e = .returned (.int .i64 (k0 + psum xss xss.length)) ∧ w' = w := by
  obtain ⟨ao, cap, rfl, h1, h2, h3⟩ := h
  obtain ⟨hy, hm⟩ := hm
  have G := Lib.hid h3; clear h3
  have HR := Lib.hid hr; clear hr
  have HP := Lib.hid hp; clear hp
  have HM := Lib.hid hm; clear hm
  rw [hy] at h1 ⊢
  have HY := Lib.hid hy; clear hy
  go_enter Try.func12, Try.ntmps12
  go_wp2
  go_loop [1, 5] (fun s i => ∃ k : Nat, k ≤ xss.length ∧ i = .int .i64 k ∧ s = .int .i64 (k0 + psum xss k)) (fun _ i => xss.length - (intOf i).toNat)
  case atStart => exact ⟨0, Nat.zero_le _, rfl, by simp [psum_zero]⟩
  case round =>
    obtain ⟨k, hk, rfl, rfl⟩ := hrel
    have hps := HP.out k hk
    by_cases hlt : k < xss.length
    · obtain ⟨b, o, ar, cr, rfl, hc, r1, r2, r3⟩ := G.out.at_ (by rw [HY.out]; exact hlt)
      have R3 := Lib.hid r3; clear r3
      rw [HM.out k hlt, seqI_length] at hc r1
      have hps2 := HP.out (k + 1) hlt
      rw [psum_succ hlt] at hps2
      have hi : Ints w (.slice ar (rowAt xss k).length cr) (seqI (k0 + psum xss k) (rowAt xss k).length) := ⟨ar, cr, by rw [seqI_length], by rw [seqI_length]; exact r1, r2, by rw [← HM.out k hlt]; exact R3.out⟩
      have HI := Lib.hid hi; clear hi
      go_wp2_with (go_at_call 34; refine (heldIntS_c _ _ (k0 + psum xss k) _ HI.out (HR.out k hlt) (by omega)).mono ?_; rintro e w' ⟨rfl, rfl⟩)
      go_round
      case rel => exact ⟨k + 1, by omega, by go_num, by rw [psum_succ hlt]; go_num⟩
      case measure => simp [intOf]; omega
    · have hkl : k = xss.length := by omega
      have HK := Lib.hid hkl; clear hkl
      go_wp2
      go_ret
      exact ⟨ret_int (by rw [HK.out]), rfl⟩
end Go.Proofs.Ytodnkahnbidgaaa
