/- Contracts of the laws' own helpers over slices of ints and slices of such slices: copies, comparisons, marks, sizes. -/
import Derived.Test.YtedkhopclgjicaaProg
import Derived.Test.YtedkhopclgjicaaLib
namespace Go.Proofs.Ytedkhopclgjicaa
open Go.RowKit

theorem info_int : (Try.prog.info? 3).map (fun i => (i.zero, i.size, i.bytes)) = some (some (.int .i64 0), 1, 8) := by kernel_rfl
theorem info_ints : (Try.prog.info? 24).map (fun i => (i.zero, i.size, i.bytes)) = some (some (.slice none 0 0), 1, 24) := by kernel_rfl

set_option maxHeartbeats 400000 in
theorem toIntS_c (v : Value) (xs : List Int) (w : World) (h : Ints w v xs) (hl : xs.length ≤ 1048576) :
    Calls Try.prog 9 #[v] w fun e w' => ∃ v', e = .returned v' ∧ Own w.heap.size w'.heap.size w' v' xs ∧ Ext w w' := by
  obtain ⟨ao, cap, rfl, h1, h2, h3⟩ := h
  have G := Lib.hid h3; clear h3
  have hmk := run_make_row' (P := Try.prog) 24 3 (.int .i64 0) 8 Try.underlying24 info_int rfl .i64 .i64 xs.length (by omega) (by omega)
  go_enter Try.func9, Try.ntmps9
  go_wp2
  go_loopw [4] (fun i wr => ∃ k : Nat, k ≤ xs.length ∧ i = .int .i64 k ∧ wr.rowIs w.heap.size 3 xs.length (fun j => if j < k then .int .i64 (ix xs j) else .int .i64 0) ∧ Ext w wr) (fun i _ => xs.length - (intOf i).toNat)
  case atStart => exact ⟨0, Nat.zero_le _, rfl, (World.rowIs_made _ _ _ _).congr (fun j _ => by simp), (Ext.refl _).alloc _⟩
  case round =>
    obtain ⟨k, hk, rfl, hrow, hx⟩ := hrel
    have HR := Lib.hid hrow
    by_cases hlt : k < xs.length
    · obtain ⟨b, o, rfl, hc⟩ := G.out k hlt
      have hc' := hx.cell hc
      have hfr := hrow.frozen k
      have hcell := hrow.cell hlt
      clear hrow
      go_wp2
      go_roundw
      case rel =>
        refine ⟨k + 1, by omega, by go_num, (HR.out.set k _).congr (fun j hj => ?_), hx.setCell _ (Nat.le_refl _)⟩
        by_cases e : j = k
        · subst e; simp
        · have : (j < k + 1) = (j < k) := by apply propext; omega
          simp [e, this]
      case measure => simp [intOf]; omega
    · clear hrow
      go_wp2
      go_ret
      exact ⟨_, rfl, Own.of_rowIs HR.out rfl (fun j hj => by rw [if_pos (by omega)]) (Nat.le_refl _) HR.out.lt (by omega), hx⟩

set_option maxHeartbeats 400000 in
theorem eqIntS_c (v1 v2 : Value) (xs ys : List Int) (w : World) (h1 : Ints w v1 xs) (h2 : Ints w v2 ys) :
    Calls Try.prog 13 #[v1, v2] w fun e w' => e = .returned (.bool (decide (xs = ys))) ∧ ∃ n, w' = w.drewN n := by
  obtain ⟨a1, c1, rfl, e1, e2, g1⟩ := h1
  obtain ⟨a2, c2, rfl, e3, e4, g2⟩ := h2
  have G1 := Lib.hid g1; clear g1
  have G2 := Lib.hid g2; clear g2
  have hl1 : xs.length ≤ 9223372036854775807 := by omega
  have hl2 : ys.length ≤ 9223372036854775807 := by omega
  go_enter Try.func13, Try.ntmps13
  by_cases hl : xs.length = ys.length
  · have hb : ((xs.length : Int) != (ys.length : Int)) = false := by simp [hl]
    have HL := Lib.hid hl; clear hl
    go_wp2
    go_loopw [5] (fun i wr => ∃ k : Nat, k ≤ xs.length ∧ i = .int .i64 k ∧ (∀ j, j < k → ix xs j = ix ys j) ∧ ∃ n, wr = w.drewN n) (fun i _ => xs.length - (intOf i).toNat)
    case atStart => exact ⟨0, Nat.zero_le _, rfl, fun j hj => by omega, 0, rfl⟩
    case round =>
      obtain ⟨k, hk, rfl, hj, n, rfl⟩ := hrel
      have HJ := Lib.hid hj; clear hj
      by_cases hlt : k < xs.length
      · have hlt2 : k < ys.length := by rw [← HL.out]; exact hlt
        obtain ⟨b1, o1, rfl, d1⟩ := G1.out k hlt
        obtain ⟨b2, o2, rfl, d2⟩ := G2.out k hlt2
        have hk0 : (0 : Int) ≤ (k : Int) := by omega
        have hk1 : (k : Int) < (xs.length : Int) := by omega
        have hk2 : (k : Int) < (ys.length : Int) := by omega
        by_cases he : ix xs k = ix ys k
        · have hne : (ix xs k != ix ys k) = false := by simp [he]
          have HE := Lib.hid he; clear he
          go_wp2_with fail
          go_quiet (fail)
          go_wp2
          go_roundw
          case rel => exact ⟨k + 1, by omega, by go_num, fun j hj => by
            by_cases e : j = k
            · subst e; exact HE.out
            · exact HJ.out j (by omega), n + nq, by simp⟩
          case measure => simp [intOf]; omega
        · have hne : (ix xs k != ix ys k) = true := by simp [he]
          have HE := Lib.hid he; clear he
          go_wp2_with fail
          go_quiet (fail)
          go_wp2
          go_ret
          refine ⟨ret_bool ?_, n + nq, by simp⟩
          have : xs ≠ ys := fun e => HE.out (by rw [e])
          simp [this]
      · go_wp2
        go_ret
        refine ⟨ret_bool ?_, _, rfl⟩
        have : xs = ys := list_ext_ix HL.out (fun j hj => HJ.out j (by omega))
        simp [this]
  · have hb : ((xs.length : Int) != (ys.length : Int)) = true := by simp; omega
    go_wp2
    go_ret
    refine ⟨ret_bool ?_, 0, rfl⟩
    have : xs ≠ ys := fun e => hl (by rw [e])
    simp [this]

theorem eqIntS_b (b : Bool) (v1 v2 : Value) (xs ys : List Int) (w : World) (hb : decide (xs = ys) = b) (h1 : Ints w v1 xs) (h2 : Ints w v2 ys) :
    Calls Try.prog 13 #[v1, v2] w fun e w' => e = .returned (.bool b) ∧ ∃ n, w' = w.drewN n := by
  subst hb; exact eqIntS_c v1 v2 xs ys w h1 h2



/-- what szIntS answers -/
def szI (left : Int) (n : Nat) : Int := if left - n < 0 then -1 else left - n
set_option maxHeartbeats 400000 in
theorem szIntS_c (ao : Option Addr) (n cap : Nat) (left : Int) (w : World) (hl : n ≤ 9223372036854775807) (h0 : 0 ≤ left ∧ left ≤ 1048576) :
    Calls Try.prog 27 #[.slice ao n cap, .int .i64 left] w fun e w' => e = .returned (.int .i64 (szI left n)) ∧ w' = w := by
  have h9 : (n : Int) ≤ 9223372036854775807 := by omega
  by_cases h : left - (n : Int) < 0
  · go_enter Try.func27, Try.ntmps27
    go_wp2
    all_goals go_ret
    all_goals exact ⟨ret_int (by unfold szI; split <;> omega), rfl⟩
  · go_enter Try.func27, Try.ntmps27
    go_wp2
    all_goals go_ret
    all_goals exact ⟨ret_int (by unfold szI; split <;> omega), rfl⟩

theorem len_le_sum {xss : List (List Int)} {r : List Int} (h : r ∈ xss) : r.length ≤ (xss.map List.length).sum := by
  induction xss with
  | nil => simp at h
  | cons x xs ih =>
    simp only [List.map_cons, List.sum_cons]
    rcases List.mem_cons.1 h with rfl | h
    · omega
    · have := ih h; omega
def szRows : Int → List (List Int) → Int
  | l, [] => l
  | l, r :: rs => if szI l r.length < 0 then -1 else szRows (szI l r.length) rs
/-- what szIntSS answers -/
def szG (left : Int) (xss : List (List Int)) : Int := if left - xss.length < 0 then -1 else szRows (left - xss.length) xss
theorem szI_cases (left : Int) (n : Nat) : szI left n = -1 ∧ left - n < 0 ∨ szI left n = left - n ∧ 0 ≤ left - n := by
  unfold szI; split <;> omega
theorem szRows_cases (l : Int) (xss : List (List Int)) (h : 0 ≤ l) : szRows l xss = -1 ∨ 0 ≤ szRows l xss ∧ szRows l xss = l - (xss.map List.length).sum := by
  induction xss generalizing l with
  | nil => right; simp [szRows]; exact h
  | cons r rs ih =>
    simp only [szRows]
    rcases szI_cases l r.length with ⟨e, _⟩ | ⟨e, h2⟩
    · rw [e]; simp
    · rw [e, if_neg (by omega)]
      rcases ih (l - r.length) h2 with h3 | h3
      · exact .inl h3
      · refine .inr ⟨h3.1, ?_⟩
        rw [h3.2]; simp only [List.map_cons, List.sum_cons]; omega
/-- where it is not -1 all lengths are small -/
theorem szG_cases (left : Int) (xss : List (List Int)) : szG left xss = -1 ∨ 0 ≤ szG left xss ∧ szG left xss = left - xss.length - (xss.map List.length).sum := by
  unfold szG
  split
  · exact .inl rfl
  · exact szRows_cases _ _ (by omega)
theorem szRows_drop {l : Int} {xss : List (List Int)} {k : Nat} (h : k < xss.length) : szRows l (xss.drop k) = if szI l (rowAt xss k).length < 0 then -1 else szRows (szI l (rowAt xss k).length) (xss.drop (k + 1)) := by
  rw [List.drop_eq_getElem_cons h, rowAt_eq h]; rfl






end Go.Proofs.Ytedkhopclgjicaa
