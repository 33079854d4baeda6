/- Cuts: lists of indices, and whether rows and columns are a cut; the spec's and the program's. -/
import Derived.Test.YthdfiebacomilaaFlowOk
import Derived.Test.YthdfiebacomilaaFm
import Derived.Lib.Hide
namespace Go.Proofs.Ythdfiebacomilaa
open Go.RowKit
open Fm

def hasI (xs : List Int) (n : Int) : Bool := xs.any fun x => decide (x = n)
theorem hasI_of {xs : List Int} {n : Int} {j : Nat} (hj : j < xs.length) (h : ix xs j = n) : hasI xs n = true := by
  unfold hasI; rw [List.any_eq_true]; exact ⟨_, ix_mem hj, by simp [h]⟩
theorem hasI_not {xs : List Int} {n : Int} (h : ∀ j, j < xs.length → ix xs j ≠ n) : hasI xs n = false := by
  apply Bool.eq_false_iff.2
  intro e
  obtain ⟨x, hx, hn⟩ := List.any_eq_true.1 e
  obtain ⟨j, hj, rfl⟩ := List.getElem_of_mem hx
  exact h j hj (by rw [ix_eq hj]; simpa using hn)
/-- strictly increasing, and below n -/
def Rising (n : Int) (xs : List Int) : Prop := ∀ k, k < xs.length → (0 ≤ ix xs k ∧ ix xs k < n) ∧ (0 < k → ix xs (k - 1) < ix xs k)
open Classical in
noncomputable def risingB (n : Int) (xs : List Int) : Bool := decide (Rising n xs)
theorem risingB_true {n : Int} {xs : List Int} : risingB n xs = true ↔ Rising n xs := by simp [risingB]
theorem risingB_false {n : Int} {xs : List Int} (h : ¬ Rising n xs) : risingB n xs = false := by simp [risingB, h]
theorem Rising.lt {n : Int} {xs : List Int} (h : Rising n xs) : ∀ {j k : Nat}, j < k → k < xs.length → ix xs j < ix xs k := by
  intro j k hjk
  induction k with
  | zero => omega
  | succ k ih =>
    intro hk
    have h1 := (h (k + 1) hk).2 (by omega)
    rw [Nat.add_sub_cancel] at h1
    by_cases e : j = k
    · subst e; exact h1
    · have := ih (by omega) (by omega); omega
theorem Rising.ge {n : Int} {xs : List Int} (h : Rising n xs) : ∀ {k : Nat}, k < xs.length → (k : Int) ≤ ix xs k := by
  intro k
  induction k with
  | zero => intro hk; exact (h 0 hk).1.1
  | succ k ih =>
    intro hk
    have h1 := h.lt (j := k) (k := k + 1) (by omega) hk
    have := ih (by omega); push_cast; omega
theorem Rising.length {n : Int} {xs : List Int} (h : Rising n xs) (hn : 0 ≤ n) : (xs.length : Int) ≤ n := by
  by_cases e : xs.length = 0
  · omega
  · have h1 := h.ge (k := xs.length - 1) (by omega)
    have h2 := (h (xs.length - 1) (by omega)).1.2
    omega
theorem Rising.nodup {n : Int} {xs : List Int} (h : Rising n xs) : xs.Nodup := by
  rw [List.Nodup, List.pairwise_iff_getElem]
  intro i j hi hj hij e
  have := h.lt hij hj
  rw [ix_eq hi, ix_eq hj] at this
  omega
theorem sum_ind {n : Nat} (f : Nat → Int) : ∀ (l : List Int), l.Nodup → (∀ x ∈ l, 0 ≤ x ∧ x < n) → (l.map fun r => f r.toNat).sum = S n (fun i => if hasI l (i : Int) = true then f i else 0) := by
  intro l
  induction l with
  | nil => intro _ _; simp [hasI, S_zero]
  | cons a t ih =>
    intro hn hb
    rw [List.nodup_cons] at hn
    have ha := hb a (by simp)
    have h1 := ih hn.2 (fun x hx => hb x (by simp [hx]))
    rw [List.map_cons, List.sum_cons, h1]
    have h2 := S_single (n := n) (k := a.toNat) (by omega) (f a.toNat)
    rw [← h2, ← S_add]
    apply S_congr
    intro i _
    by_cases e : i = a.toNat
    · have e2 : a = (i : Int) := by omega
      have h3 : hasI t (i : Int) = false := by
        apply Bool.eq_false_iff.2
        intro hh
        obtain ⟨x, hx, hxe⟩ := List.any_eq_true.1 hh
        have : x = (i : Int) := by simpa using hxe
        rw [this, ← e2] at hx
        exact hn.1 hx
      have h4 : hasI (a :: t) (i : Int) = true := by simp [hasI, e2]
      rw [if_pos e, if_neg (by rw [h3]; simp), if_pos h4, e]; omega
    · have e2 : a ≠ (i : Int) := by omega
      have h4 : hasI (a :: t) (i : Int) = hasI t (i : Int) := by simp [hasI, e2]
      rw [if_neg e, h4]; omega
theorem Rising.sum {n : Nat} {xs : List Int} (h : Rising (n : Int) xs) (f : Nat → Int) : (xs.map fun r => f r.toNat).sum = S n (fun i => if hasI xs (i : Int) = true then f i else 0) :=
  sum_ind f xs h.nodup (fun x hx => by
    obtain ⟨i, hi, rfl⟩ := List.getElem_of_mem hx
    have := (h i hi).1
    rwa [ix_eq hi] at this)
def pickS (R : List Int) (l : List Int) : Int := (l.map fun r => ix R r.toNat).sum
theorem pickS_take {R l : List Int} {k : Nat} (h : k < l.length) : pickS R (l.take (k + 1)) = pickS R (l.take k) + ix R (ix l k).toNat := by
  simp [pickS, take_succ_ix h]
def cutEl (T : Tr) (rows cols : List Int) (i j : Nat) : Int :=
  if hasI rows (i : Int) = true then (if hasI cols (j : Int) = true then 0 else ix (rowAt T.hi i) j) else (if hasI cols (j : Int) = true then - ix (rowAt T.lo i) j else 0)
def cutD (T : Tr) (rows cols : List Int) (k l : Nat) : Int := S k (fun i => S T.cols.length (cutEl T rows cols i)) + S l (cutEl T rows cols k)
theorem cutD_zero (T : Tr) (rows cols : List Int) : cutD T rows cols 0 0 = 0 := rfl
theorem cutD_succ (T : Tr) (rows cols : List Int) (k l : Nat) : cutD T rows cols k (l + 1) = cutD T rows cols k l + cutEl T rows cols k l := by
  show _ + (S l _ + _) = _ + S l _ + _
  omega
theorem cutD_next (T : Tr) (rows cols : List Int) (k : Nat) : cutD T rows cols (k + 1) 0 = cutD T rows cols k T.cols.length := by
  show (S k _ + S T.cols.length _) + 0 = S k _ + S T.cols.length _
  omega
def cutB (T : Tr) (rows cols : List Int) : Bool := decide (pickS T.cols cols + cutD T rows cols T.rows.length 0 < pickS T.rows rows)

set_option maxHeartbeats 400000 in
theorem l1Has_b (b : Bool) (v : Value) (xs : List Int) (n : Int) (w : World) (hb : hasI xs n = b) (h : Ints w v xs) : Calls Try.prog 88 #[v, .int .i64 n] w fun e w' => e = .returned (.bool b) ∧ w' = w := by
  subst hb
  obtain ⟨ao, cap, rfl, h1, h2, h3⟩ := h
  have G := Lib.hid h3; clear h3
  go_enter Try.func88, Try.ntmps88
  go_wp2
  go_loop [9] (fun i => ∃ k : Nat, k ≤ xs.length ∧ i = .int .i64 k ∧ ∀ j, j < k → ix xs j ≠ n) (fun i => xs.length - (intOf i).toNat)
  case atStart => exact ⟨0, Nat.zero_le _, rfl, fun j hj => by omega⟩
  case round =>
    obtain ⟨k, hk, rfl, hj⟩ := hrel
    have HJ := Lib.hid hj; clear hj
    by_cases hlt : k < xs.length
    · obtain ⟨b, o, rfl, hc⟩ := G.out k hlt
      by_cases he : ix xs k = n
      · go_wp2
        go_ret
        exact ⟨ret_bool (hasI_of hlt he).symm, rfl⟩
      · have HE := Lib.hid he
        go_wp2
        go_round
        case rel => exact ⟨k + 1, by omega, by go_num, fun j hj => by
          by_cases e : j = k
          · subst e; exact HE.out
          · exact HJ.out j (by omega)⟩
        case measure => simp [intOf]; omega
    · go_wp2
      go_ret
      exact ⟨ret_bool (hasI_not (fun j hj => HJ.out j (by omega))).symm, rfl⟩
set_option maxHeartbeats 400000 in
theorem indexI_c (v : Value) (xs : List Int) (n : Int) (w : World) (h : Ints w v xs) : Calls Try.prog 113 #[v, .int .i64 n] w fun e w' => (∃ r : Int, e = .returned (.int .i64 r) ∧ -1 ≤ r ∧ r ≤ 9223372036854775807 ∧ decide (0 ≤ r) = hasI xs n) ∧ w' = w := by
  obtain ⟨ao, cap, rfl, h1, h2, h3⟩ := h
  have G := Lib.hid h3; clear h3
  go_enter Try.func113, Try.ntmps113
  go_wp2
  go_loop [8] (fun i => ∃ k : Nat, k ≤ xs.length ∧ i = .int .i64 k ∧ ∀ j, j < k → ix xs j ≠ n) (fun i => xs.length - (intOf i).toNat)
  case atStart => exact ⟨0, Nat.zero_le _, rfl, fun j hj => by omega⟩
  case round =>
    obtain ⟨k, hk, rfl, hj⟩ := hrel
    have HJ := Lib.hid hj; clear hj
    by_cases hlt : k < xs.length
    · obtain ⟨b, o, rfl, hc⟩ := G.out k hlt
      by_cases he : ix xs k = n
      · have hq : (n == ix xs k) = true := by simp [he]
        have HE := Lib.hid he; clear he
        go_wp2
        go_ret
        exact ⟨⟨k, rfl, by omega, by omega, by rw [hasI_of hlt HE.out]; simp⟩, rfl⟩
      · have hq : (n == ix xs k) = false := by simp; exact fun e => he e.symm
        have HE := Lib.hid he; clear he
        go_wp2
        go_round
        case rel => exact ⟨k + 1, by omega, by go_num, fun j hj => by
          by_cases e : j = k
          · subst e; exact HE.out
          · exact HJ.out j (by omega)⟩
        case measure => simp [intOf]; omega
    · go_wp2
      go_ret
      exact ⟨⟨-1, rfl, by omega, by omega, by rw [hasI_not (fun j hj => HJ.out j (by omega))]; rfl⟩, rfl⟩
theorem containsI_b (b : Bool) (v : Value) (xs : List Int) (n : Int) (w : World) (hb : hasI xs n = b) (h : Ints w v xs) : Calls Try.prog 91 #[v, .int .i64 n] w fun e w' => e = .returned (.bool b) ∧ w' = w := by
  have H := Lib.hid h; clear h
  have HB := Lib.hid hb; clear hb
  go_enter Try.func91, Try.ntmps91
  go_wp2_with fail
  refine (indexI_c _ xs n _ H.out).mono ?_
  rintro e w' ⟨⟨r, rfl, h1, h2, h3⟩, rfl⟩
  rw [HB.out] at h3
  go_wp2
  go_ret
  first | exact ⟨rfl, rfl⟩ | exact ⟨ret_bool h3, rfl⟩
set_option maxHeartbeats 800000 in
theorem l1Rising_b (b : Bool) (v : Value) (xs : List Int) (n hi : Int) (w : World) (hb : risingB n xs = b) (hh : hi = n - 1) (h : Ints w v xs) :
    Calls Try.prog 51 #[v, .int .i64 0, .int .i64 hi] w fun e w' => e = .returned (.bool b) ∧ w' = w := by
  subst hb
  obtain ⟨ao, cap, rfl, h1, h2, h3⟩ := h
  have G := Lib.hid h3; clear h3
  have HH := Lib.hid hh; clear hh
  go_enter Try.func51, Try.ntmps51
  go_wp2
  go_loop [11] (fun i => ∃ k : Nat, k ≤ xs.length ∧ i = .int .i64 k ∧ ∀ j, j < k → (0 ≤ ix xs j ∧ ix xs j < n) ∧ (0 < j → ix xs (j - 1) < ix xs j)) (fun i => xs.length - (intOf i).toNat)
  case atStart => exact ⟨0, Nat.zero_le _, rfl, fun j hj => by omega⟩
  case round =>
    obtain ⟨k, hk, rfl, hj⟩ := hrel
    have HJ := Lib.hid hj; clear hj
    by_cases hlt : k < xs.length
    · obtain ⟨b, o, rfl, hc⟩ := G.out k hlt
      by_cases hin : 0 ≤ ix xs k ∧ ix xs k < n
      · have hd : (decide (0 ≤ ix xs k) && decide (ix xs k ≤ hi)) = true := by have := HH.out; simp; omega
        have HD := Lib.hid hd; clear hd
        have HIN := Lib.hid hin; clear hin
        by_cases hk0 : 0 < k
        · have hk1 : k - 1 < xs.length := by omega
          obtain ⟨b', o', e', hc'⟩ := G.out (k - 1) hk1
          simp only [Option.some.injEq, Addr.mk.injEq, and_true] at e'
          obtain ⟨rfl, rfl⟩ := e'
          obtain ⟨K, rfl⟩ : ∃ K, k = K + 1 := ⟨k - 1, by omega⟩
          rw [Nat.add_sub_cancel] at hc'
          by_cases hlt3 : ix xs K < ix xs (K + 1)
          · have HL := Lib.hid hlt3
            go_wp2_with fail
            refine (l1In_b true _ 0 hi _ HD.out).mono ?_
            rintro e w' ⟨rfl, rfl⟩
            go_wp2
            go_round
            case rel => exact ⟨K + 1 + 1, by omega, by go_num, fun j hj => by
              by_cases e : j = K + 1
              · subst e; exact ⟨HIN.out, fun _ => by rw [Nat.add_sub_cancel]; exact HL.out⟩
              · exact HJ.out j (by omega)⟩
            case measure => simp [intOf]; omega
          · have HB := Lib.hid (risingB_false (n := n) (xs := xs) (fun hr => hlt3 (by have := (hr (K + 1) hlt).2 (by omega); rwa [Nat.add_sub_cancel] at this)))
            go_wp2_with fail
            refine (l1In_b true _ 0 hi _ HD.out).mono ?_
            rintro e w' ⟨rfl, rfl⟩
            go_wp2
            go_ret
            rw [HB.out]
            exact ⟨rfl, rfl⟩
        · go_wp2_with fail
          refine (l1In_b true _ 0 hi _ HD.out).mono ?_
          rintro e w' ⟨rfl, rfl⟩
          go_wp2
          go_round
          case rel => exact ⟨k + 1, by omega, by go_num, fun j hj => by
            have : j = k := by omega
            subst this; exact ⟨HIN.out, fun h => by omega⟩⟩
          case measure => simp [intOf]; omega
      · have hd : (decide (0 ≤ ix xs k) && decide (ix xs k ≤ hi)) = false := by
          have := HH.out
          rw [Bool.and_eq_false_iff]; simp only [decide_eq_false_iff_not]; omega
        have HB := Lib.hid (risingB_false (n := n) (xs := xs) (fun hr => hin (hr k hlt).1))
        have HD := Lib.hid hd; clear hd hin
        go_wp2_with fail
        refine (l1In_b false _ 0 hi _ HD.out).mono ?_
        rintro e w' ⟨rfl, rfl⟩
        go_wp2
        go_ret
        rw [HB.out]
        exact ⟨rfl, rfl⟩
    · have HB := Lib.hid (risingB_true.2 (show Rising n xs from fun j hj => HJ.out j (by omega)))
      go_wp2
      go_ret
      rw [HB.out]
      exact ⟨rfl, rfl⟩
set_option maxHeartbeats 800000 in
theorem areIndices_b (b : Bool) (v : Value) (xs : List Int) (n : Int) (w : World) (hb : risingB n xs = b) (h : Ints w v xs) :
    Calls Try.prog 54 #[v, .int .i64 n] w fun e w' => e = .returned (.bool b) ∧ w' = w := by
  subst hb
  obtain ⟨ao, cap, rfl, h1, h2, h3⟩ := h
  have G := Lib.hid h3; clear h3
  go_enter Try.func54, Try.ntmps54
  go_wp2
  go_loop [5, 10] (fun s i => ∃ (k : Nat) (last : Int), k ≤ xs.length ∧ i = .int .i64 k ∧ s = .int .i64 last ∧ (k = 0 → last = -1) ∧ (0 < k → last = ix xs (k - 1)) ∧ ∀ j, j < k → (0 ≤ ix xs j ∧ ix xs j < n) ∧ (0 < j → ix xs (j - 1) < ix xs j)) (fun _ i => xs.length - (intOf i).toNat)
  case atStart => exact ⟨0, -1, Nat.zero_le _, rfl, rfl, fun _ => rfl, fun h => by omega, fun j hj => by omega⟩
  case round =>
    obtain ⟨k, last, hk, rfl, rfl, hl0, hl1, hj⟩ := hrel
    have HJ := Lib.hid hj; clear hj
    have HL0 := Lib.hid hl0; clear hl0
    have HL1 := Lib.hid hl1; clear hl1
    by_cases hlt : k < xs.length
    · obtain ⟨b, o, rfl, hc⟩ := G.out k hlt
      have hlow : -1 ≤ last := by
        by_cases e : k = 0
        · rw [HL0.out e]; omega
        · rw [HL1.out (by omega)]; have := (HJ.out (k - 1) (by omega)).1; omega
      by_cases hle : ix xs k ≤ last
      · have HB := Lib.hid (risingB_false (n := n) (xs := xs) (fun hr => by
          have h1 := hr k hlt
          by_cases e : k = 0
          · have := HL0.out e; omega
          · have := HL1.out (by omega); have := h1.2 (by omega); omega))
        go_wp2
        go_ret
        rw [HB.out]
        exact ⟨rfl, rfl⟩
      · by_cases hge : n ≤ ix xs k
        · have HB := Lib.hid (risingB_false (n := n) (xs := xs) (fun hr => by have h1 := hr k hlt; omega))
          go_wp2
          go_ret
          rw [HB.out]
          exact ⟨rfl, rfl⟩
        · go_wp2
          go_round
          case rel => exact ⟨k + 1, ix xs k, by omega, by go_num, rfl, fun h => by omega, fun _ => by rw [Nat.add_sub_cancel], fun j hj => by
            by_cases e : j = k
            · subst e
              refine ⟨by omega, fun h0 => ?_⟩
              have := HL1.out h0; omega
            · exact HJ.out j (by omega)⟩
          case measure => simp [intOf]; omega
    · have HB := Lib.hid (risingB_true.2 (show Rising n xs from fun j hj => HJ.out j (by omega)))
      go_wp2
      go_ret
      rw [HB.out]
      exact ⟨rfl, rfl⟩
end Go.Proofs.Ythdfiebacomilaa
