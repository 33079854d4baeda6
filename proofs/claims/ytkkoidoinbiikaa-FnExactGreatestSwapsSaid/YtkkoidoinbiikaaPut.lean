/- Putting an int into a strictly increasing list; appending a list to a row of the call's own. -/
import Derived.Test.YtkkoidoinbiikaaRise
import Derived.Test.YtkkoidoinbiikaaApp
import Derived.Deep.Upon
import Derived.Lib.AppendZeros
namespace Go.Proofs.Ytkkoidoinbiikaa
open Go.RowKit

def putI : List Int → Int → List Int
  | [], n => [n]
  | x :: xs, n => if x < n then x :: putI xs n else if x = n then x :: xs else n :: x :: xs
theorem putI_found {n : Int} : ∀ {xs : List Int} {k : Nat}, k < xs.length → (∀ j, j < k → ix xs j < n) → ix xs k = n → putI xs n = xs
  | [], k, h, _, _ => by simp at h
  | x :: xs, 0, _, _, h => by
    have : x = n := h
    simp [putI, this]
  | x :: xs, k + 1, hk, hl, h => by
    have h0 : x < n := hl 0 (by omega)
    have := putI_found (xs := xs) (k := k) (by simpa using hk) (fun j hj => hl (j + 1) (by omega)) h
    simp [putI, h0, this]
theorem putI_new {n : Int} : ∀ {xs : List Int} {k : Nat}, k ≤ xs.length → (∀ j, j < k → ix xs j < n) → (k < xs.length → n < ix xs k) → putI xs n = xs.take k ++ [n] ++ xs.drop k
  | [], k, h, _, _ => by simp [putI]
  | x :: xs, 0, _, _, h => by
    have h0 : n < x := h (by simp)
    have h1 : ¬ x < n := by omega
    have h2 : ¬ x = n := by omega
    simp [putI, h1, h2]
  | x :: xs, k + 1, hk, hl, h => by
    have h0 : x < n := hl 0 (by omega)
    have := putI_new (xs := xs) (k := k) (by simpa using hk) (fun j hj => hl (j + 1) (by omega)) (fun hk => h (by simpa using hk))
    simp [putI, h0, this]
/-- strictly increasing -/
def Incr (xs : List Int) : Prop := xs.Pairwise (· < ·)
theorem mem_putI {n m : Int} : ∀ {xs : List Int}, m ∈ putI xs n ↔ m = n ∨ m ∈ xs
  | [] => by simp [putI]
  | x :: xs => by
    unfold putI
    split
    · simp [mem_putI (xs := xs)]; constructor <;> (intro h; rcases h with h | h | h <;> simp [h])
    · split
      · next h => simp; intro h2; left; omega
      · simp
theorem incr_putI {n : Int} : ∀ {xs : List Int}, Incr xs → Incr (putI xs n)
  | [], _ => by simp [putI, Incr]
  | x :: xs, h => by
    have h1 := List.pairwise_cons.1 h
    unfold putI
    split
    · next h0 =>
      refine List.pairwise_cons.2 ⟨fun a ha => ?_, incr_putI h1.2⟩
      rcases mem_putI.1 ha with rfl | ha
      · exact h0
      · exact h1.1 a ha
    · split
      · exact h
      · next h0 h2 =>
        refine List.pairwise_cons.2 ⟨fun a ha => ?_, h⟩
        rcases List.mem_cons.1 ha with rfl | ha
        · omega
        · have := h1.1 a ha; omega
theorem hasI_mem {xs : List Int} {n : Int} : hasI xs n = true ↔ n ∈ xs := by simp [hasI]
theorem hasI_false {xs : List Int} {n : Int} : hasI xs n = false ↔ n ∉ xs := by
  rw [← hasI_mem]; simp
theorem len_putI_has {n : Int} : ∀ {xs : List Int}, Incr xs → n ∈ xs → putI xs n = xs
  | [], _, h => by simp at h
  | x :: xs, hi, h => by
    have h1 := List.pairwise_cons.1 hi
    unfold putI
    rcases List.mem_cons.1 h with rfl | h
    · simp
    · have := h1.1 n h
      rw [if_pos this, len_putI_has h1.2 h]
theorem len_putI_new {n : Int} : ∀ {xs : List Int}, n ∉ xs → (putI xs n).length = xs.length + 1
  | [], _ => by simp [putI]
  | x :: xs, h => by
    have h1 : ¬ x = n := fun e => h (by simp [e])
    have h2 : n ∉ xs := fun e => h (by simp [e])
    unfold putI
    split
    · simp [len_putI_new h2]
    · simp
theorem len_putI_le {n : Int} {xs : List Int} : (putI xs n).length ≤ xs.length + 1 := by
  induction xs with
  | nil => simp [putI]
  | cons x xs ih => unfold putI; split <;> (try split) <;> simp <;> omega

/-- an empty row that was made -/
theorem IRow.made (w : World) : IRow w.heap.size (w.alloc (.cells #[] 3)) (.slice (some ⟨w.heap.size, 0, none⟩) 0 0) [] :=
  And.intro rfl (.inr ⟨w.heap.size, 0, #[], rfl, Nat.le_refl _, Go.Deep.blk_alloc_new _ _, Nat.le_refl _, by simp [maxLen], rfl, rfl⟩)
theorem IRow.cap {lo : Nat} {w : World} {xs : List Int} {a : Option Addr} {n c : Nat} (h : IRow lo w (.slice a n c) xs) : n ≤ c := by
  rcases h.2 with ⟨h1, h2⟩ | ⟨g, cp, cur, h1, _, _, h2, _⟩
  · simp only [Value.slice.injEq] at h1; omega
  · simp only [Value.slice.injEq] at h1; omega

/-- appending a list, be it empty -/
theorem appI {ops : Array Oper} {rest : List Oper} {o : Oper} {a : Act} {Q : Exit → Act → World → Prop} (w : World) (hgd : o.guard = none) (s x : Operand)
    (ho : o.op = .call { callee := .builtin .append, args := #[s, x], argTypes := #[24, 24] })
    (lo : Nat) (v : Value) (xs : List Int) (hs : a.eval s = v) (hown : IRow lo w v xs) (sv : Value) (ys : List Int) (hx : a.eval x = sv) (hy : Ints w sv ys)
    (hl : xs.length + ys.length ≤ 1099511627776) (hlo : lo ≤ w.heap.size)
    (h : ∀ v' w', IRow lo w' v' (xs ++ ys) → w.grownBy w' v.ownBlock → wpList Try.prog ops Q rest (a.put o.dst v') w') : wpList Try.prog ops Q (o :: rest) a w := by
  obtain ⟨ao, cap, rfl, h1, h2, h3⟩ := hy
  obtain ⟨i, hi, hz0, hz1, hz2⟩ := info_parts info_int
  obtain ⟨av, cv, rfl⟩ := hown.form
  by_cases hne : ys = []
  · subst hne
    refine Lib.wpList_append_run w hgd s x 24 24 ho _ _ hs hx (.slice av xs.length cv) w ?_ (h _ _ (by simpa using hown) (World.grownBy.refl _ _))
    refine run_append_nothing w 24 24 _ 3 i Try.underlying24 hi av xs.length cv hown.cap _ ?_
    rcases ao with _ | ad
    · exact Src.ofNil w Try.underlying24 cap
    · exact Src.ofSlice w Try.underlying24 ad 0 cap [] (by simp) (by simp) (by simp)
  · have h0 : 0 < ys.length := List.length_pos_iff.2 hne
    obtain ⟨b, o', rfl, hc0⟩ := h3 0 h0
    have HN : ∀ j u, (ys.map (Value.int .i64))[j]? = some u → w.cell? ((⟨b, o', none⟩ : Addr).add j) = some u := fun j u hj => by
      have hjl : j < ys.length := by
        have := (List.getElem?_eq_some_iff.1 hj).1; simpa using this
      obtain ⟨b', o'', e, hc⟩ := h3 j hjl
      simp only [Option.some.injEq, Addr.mk.injEq, and_true] at e
      obtain ⟨rfl, rfl⟩ := e
      have hu : u = .int .i64 (ix ys j) := by
        have h5 : (ys.map (Value.int .i64))[j]? = some (.int .i64 (ix ys j)) := by simp [ix, List.getD, hjl]
        rw [h5] at hj; exact (Option.some.inj hj).symm
      subst hu
      by_cases ej : j = 0
      · subst ej; simpa [Addr.add] using hc
      · simpa [Addr.add, ej] using hc
    refine wpList_append_lies w hgd s x 24 ho lo 3 i _ 1 8 Try.underlying24 hi hz0 hz1 hz2 rfl (by decide) _ xs.length (xs.map (Value.int .i64)) hs hown ⟨b, o', none⟩ ys.length cap (ys.map (Value.int .i64)) hx (by simp) HN (by intro u hu; obtain ⟨x, _, rfl⟩ := List.mem_map.1 hu; rfl) h0 (by simp [maxLen]; omega) (by omega) hlo w.heap.size rfl ?_
    intro g cp w' hown' hgrow _ _
    refine h _ w' ?_ hgrow
    have : IRow lo w' (.slice (some ⟨g, 0, none⟩) (xs.length + ys.length) cp) (xs ++ ys) = w'.ownsRow lo 3 1 (.slice (some ⟨g, 0, none⟩) (xs.length + ys.length) cp) (xs.length + ys.length) (xs.map (Value.int .i64) ++ ys.map (Value.int .i64)) := by simp [IRow]
    rw [this]; exact hown'

theorem Ints.take {w : World} {ao : Option Addr} {n cap : Nat} {xs : List Int} (h : Ints w (.slice ao n cap) xs) {k : Nat} (hk : k ≤ xs.length) : Ints w (.slice ao k cap) (xs.take k) := by
  obtain ⟨a', c', e, h1, h2, h3⟩ := h
  simp only [Value.slice.injEq] at e
  obtain ⟨rfl, rfl, rfl⟩ := e
  have hl : (xs.take k).length = k := by simp; omega
  refine ⟨ao, cap, by rw [hl], by omega, h2, fun j hj => ?_⟩
  rw [hl] at hj
  obtain ⟨b, o, rfl, hc⟩ := h3 j (by omega)
  have hx : ix (xs.take k) j = ix xs j := by simp [ix, List.getD, List.getElem?_take, hj]
  exact ⟨b, o, rfl, by rw [hx]; exact hc⟩
theorem Ints.drop {w : World} {b o n cap : Nat} {xs : List Int} (h : Ints w (.slice (some ⟨b, o, none⟩) n cap) xs) {k : Nat} (hk : k ≤ xs.length) : Ints w (.slice (some ⟨b, o + k, none⟩) (xs.length - k) (cap - k)) (xs.drop k) := by
  obtain ⟨a', c', e, h1, h2, h3⟩ := h
  simp only [Value.slice.injEq] at e
  obtain ⟨rfl, rfl, rfl⟩ := e
  have hl : (xs.drop k).length = xs.length - k := by simp
  refine ⟨_, _, by rw [hl], by omega, by omega, fun j hj => ?_⟩
  rw [hl] at hj
  obtain ⟨b', o', e, hc⟩ := h3 (k + j) (by omega)
  simp only [Option.some.injEq, Addr.mk.injEq, and_true] at e
  obtain ⟨rfl, rfl⟩ := e
  have hx : ix (xs.drop k) j = ix xs (k + j) := by simp [ix, List.getD]
  exact ⟨b, o + k, rfl, by rw [hx, Nat.add_assoc]; exact hc⟩
theorem Ints.none_ {w : World} {ao : Option Addr} {cap : Nat} (h : cap ≤ 9223372036854775807) : Ints w (.slice ao 0 cap) [] := ⟨ao, cap, rfl, Nat.zero_le _, h, fun j hj => by simp at hj⟩
theorem IRow.ints {lo : Nat} {w : World} {v : Value} {xs : List Int} (h : IRow lo w v xs) : Ints w v xs := (h.own (Nat.le_refl _)).ints

set_option maxHeartbeats 3200000 in
theorem l1Put_c (v : Value) (xs : List Int) (n : Int) (w : World) (h : Ints w v xs) (hl : xs.length ≤ 1048576) :
    Calls Try.prog 81 #[v, .int .i64 n] w fun e w' => ∃ v', e = .returned v' ∧ Ints w' v' (putI xs n) ∧ Ext w w' := by
  have H := Lib.hid h
  obtain ⟨ao, cap, rfl, h1, h2, h3⟩ := h
  have G := Lib.hid h3; clear h3
  go_enter Try.func81, Try.ntmps81
  go_wp2
  go_loop [5] (fun i => ∃ k : Nat, k ≤ xs.length ∧ i = .int .i64 k ∧ ∀ j, j < k → ix xs j < n) (fun i => xs.length - (intOf i).toNat)
  case atStart => exact ⟨0, Nat.zero_le _, rfl, fun j hj => by omega⟩
  case round =>
    obtain ⟨k, hk, rfl, hj⟩ := hrel
    have HJ := Lib.hid hj; clear hj
    by_cases hlt : k < xs.length
    · obtain ⟨b, o, rfl, hc⟩ := G.out k hlt
      by_cases hn : ix xs k < n
      · have HN := Lib.hid hn
        go_wp2_with go_region
        go_round
        case rel => exact ⟨k + 1, by omega, by go_num, fun j hj => by
          by_cases e : j = k
          · subst e; exact HN.out
          · exact HJ.out j (by omega)⟩
        case measure => simp [intOf]; omega
      · by_cases he : ix xs k = n
        · have HP := Lib.hid (putI_found hlt HJ.out he)
          have hne : (ix xs k == n) = true := by simp [he]
          clear he
          go_wp2_with go_region
          go_ret
          exact ⟨_, rfl, by rw [HP.out]; exact H.out, Ext.refl w⟩
        · have HP := Lib.hid (putI_new (n := n) (by omega) HJ.out (fun _ => by omega))
          have hne : (ix xs k == n) = false := by simp [he]
          have HTK := Lib.hid (H.out.take hk)
          have HDR := Lib.hid (H.out.drop hk)
          have hl1 : (xs.take k).length = k := by simp; omega
          have hl2 : (xs.drop k).length = xs.length - k := by simp
          obtain ⟨T, hT⟩ : ∃ T, xs.take k = T := ⟨_, rfl⟩
          obtain ⟨D, hD⟩ : ∃ T, xs.drop k = T := ⟨_, rfl⟩
          rw [hT] at HTK HP hl1
          rw [hD] at HDR HP hl2
          clear hT hD
          have HL := Lib.hid (And.intro hl1 hl2); clear hl1 hl2
          clear he
          have e0 := (Ext.refl w).alloc (.cells #[] 3)
          go_wp2_with (first | go_region | (at_builtin; go_loud (refine appI _ rfl _ _ rfl w.heap.size _ [] rfl (IRow.made w) _ T rfl (HTK.out.ext e0) (by have := HL.out.1; simp; omega) (by simp) ?_)))
          rintro v3 w3 r3 hg3
          have u3 := (IRow.made w).grew e0 (Nat.le_refl _) hg3
          have R3 := Lib.hid r3
          obtain ⟨a3, c3, rfl⟩ := r3.form
          clear r3 hg3
          rw [HL.out.1]
          have n3 : Ints (w3.alloc (.cells #[.int .i64 n] 3)) (.slice (some ⟨w3.heap.size, 0, none⟩) 1 1) [n] := by
            have hb := Box.new w3 3 #[.int .i64 n] rfl
            have h0 := hb.cell 0 (by simp)
            refine ⟨_, 1, rfl, Nat.le_refl _, by omega, fun j hj => ⟨_, 0, rfl, ?_⟩⟩
            have e : j = 0 := by simpa using hj
            subst e
            exact h0
          have N3 := Lib.hid n3; clear n3
          have e3 := (Ext.refl w3).alloc (.cells #[.int .i64 n] 3)
          go_wp2_with (at_builtin; go_loud (refine appI _ rfl _ _ rfl w.heap.size _ T (by rw [HL.out.1]; rfl) (R3.out.ext e3) _ [n] rfl N3.out (by have := HL.out.1; simp; omega) (by have := u3.size; have := e3.size; omega) ?_))
          rintro v4 w4 r4 hg4
          have u4 := (R3.out.ext e3).grew (u3.trans e3) (Nat.le_refl _) hg4
          have R4 := Lib.hid r4
          obtain ⟨a4, c4, rfl⟩ := r4.form
          clear r4 hg4
          have hl4 : (T ++ [n]).length = k + 1 := by simp [HL.out.1]
          rw [hl4]
          have HL4 := Lib.hid hl4; clear hl4
          go_wp2_with (at_builtin; go_loud (refine appI _ rfl _ _ rfl w.heap.size _ (T ++ [n]) (by rw [HL4.out]; rfl) R4.out _ D rfl (HDR.out.ext u4) (by have := HL.out.1; have := HL.out.2; simp; omega) (by have := u3.size; have := e3.size; have := u4.size; omega) ?_))
          rintro v5 w5 r5 hg5
          have u5 := R4.out.grew u4 (Nat.le_refl _) (by simpa using hg5)
          have R5 := Lib.hid r5
          obtain ⟨a5, c5, rfl⟩ := r5.form
          clear r5 hg5
          go_wp2
          go_ret
          exact ⟨_, rfl, by rw [HP.out]; simpa [List.append_assoc] using R5.out.ints, u5⟩
    · have hkl : xs.length = k := by omega
      have hp := putI_new (n := n) hk HJ.out (fun h => by omega)
      rw [← hkl, List.take_length, List.drop_length] at hp
      have HP := Lib.hid hp; clear hp
      have HH := H.out
      rw [hkl] at HH h1 ⊢
      clear H G
      have H := Lib.hid HH; clear HH
      have HL := Lib.hid hkl
      clear hkl hk hlt
      rcases ao with _ | ad
      rotate_left 1
      by_cases hck : cap = k
      · obtain rfl : k = cap := hck.symm
        have e0 := (Ext.refl w).alloc (.cells #[] 3)
        go_wp2_with (first | go_region | (at_builtin; go_loud (refine appI _ rfl _ _ rfl w.heap.size _ [] rfl (IRow.made w) _ xs rfl (H.out.ext e0) (by have := HL.out; simp; omega) (by simp) ?_)))
        rintro v3 w3 r3 hg3
        have u3 := (IRow.made w).grew e0 (Nat.le_refl _) hg3
        have R3 := Lib.hid r3
        obtain ⟨a3, c3, rfl⟩ := r3.form
        clear r3 hg3
        rw [HL.out]
        have n3 : Ints (w3.alloc (.cells #[.int .i64 n] 3)) (.slice (some ⟨w3.heap.size, 0, none⟩) 1 1) [n] := by
          have hb := Box.new w3 3 #[.int .i64 n] rfl
          have h0 := hb.cell 0 (by simp)
          refine ⟨_, 1, rfl, Nat.le_refl _, by omega, fun j hj => ⟨_, 0, rfl, ?_⟩⟩
          have e : j = 0 := by simpa using hj
          subst e
          exact h0
        have N3 := Lib.hid n3; clear n3
        have e3 := (Ext.refl w3).alloc (.cells #[.int .i64 n] 3)
        go_wp2_with (at_builtin; go_loud (refine appI _ rfl _ _ rfl w.heap.size _ xs (by rw [HL.out]; rfl) (R3.out.ext e3) _ [n] rfl N3.out (by have := HL.out; simp; omega) (by have := u3.size; have := e3.size; omega) ?_))
        rintro v4 w4 r4 hg4
        have u4 := (R3.out.ext e3).grew (u3.trans e3) (Nat.le_refl _) hg4
        have R4 := Lib.hid r4
        obtain ⟨a4, c4, rfl⟩ := r4.form
        clear r4 hg4
        have hl4 : (xs ++ [n]).length = k + 1 := by simp [HL.out]
        rw [hl4]
        have HL4 := Lib.hid hl4; clear hl4
        go_wp2_with (at_builtin; go_loud (refine appI _ rfl _ _ rfl w.heap.size _ (xs ++ [n]) (by rw [HL4.out]; rfl) R4.out _ [] rfl (Ints.none_ (by omega)) (by have := HL.out; simp; omega) (by have := u3.size; have := e3.size; have := u4.size; omega) ?_))
        rintro v5 w5 r5 hg5
        have u5 := R4.out.grew u4 (Nat.le_refl _) (by simpa using hg5)
        have R5 := Lib.hid r5
        obtain ⟨a5, c5, rfl⟩ := r5.form
        clear r5 hg5
        go_wp2
        go_ret
        exact ⟨_, rfl, by rw [HP.out]; simpa [List.append_assoc] using R5.out.ints, u5⟩
      all_goals
        have e0 := (Ext.refl w).alloc (.cells #[] 3)
        go_wp2_with (first | go_region | (at_builtin; go_loud (refine appI _ rfl _ _ rfl w.heap.size _ [] rfl (IRow.made w) _ xs rfl (H.out.ext e0) (by have := HL.out; simp; omega) (by simp) ?_)))
        rintro v3 w3 r3 hg3
        have u3 := (IRow.made w).grew e0 (Nat.le_refl _) hg3
        have R3 := Lib.hid r3
        obtain ⟨a3, c3, rfl⟩ := r3.form
        clear r3 hg3
        rw [HL.out]
        have n3 : Ints (w3.alloc (.cells #[.int .i64 n] 3)) (.slice (some ⟨w3.heap.size, 0, none⟩) 1 1) [n] := by
          have hb := Box.new w3 3 #[.int .i64 n] rfl
          have h0 := hb.cell 0 (by simp)
          refine ⟨_, 1, rfl, Nat.le_refl _, by omega, fun j hj => ⟨_, 0, rfl, ?_⟩⟩
          have e : j = 0 := by simpa using hj
          subst e
          exact h0
        have N3 := Lib.hid n3; clear n3
        have e3 := (Ext.refl w3).alloc (.cells #[.int .i64 n] 3)
        go_wp2_with (at_builtin; go_loud (refine appI _ rfl _ _ rfl w.heap.size _ xs (by rw [HL.out]; rfl) (R3.out.ext e3) _ [n] rfl N3.out (by have := HL.out; simp; omega) (by have := u3.size; have := e3.size; omega) ?_))
        rintro v4 w4 r4 hg4
        have u4 := (R3.out.ext e3).grew (u3.trans e3) (Nat.le_refl _) hg4
        have R4 := Lib.hid r4
        obtain ⟨a4, c4, rfl⟩ := r4.form
        clear r4 hg4
        have hl4 : (xs ++ [n]).length = k + 1 := by simp [HL.out]
        rw [hl4]
        have HL4 := Lib.hid hl4; clear hl4
        go_wp2_with (at_builtin; go_loud (refine appI _ rfl _ _ rfl w.heap.size _ (xs ++ [n]) (by rw [HL4.out]; rfl) R4.out _ [] rfl (Ints.none_ (by omega)) (by have := HL.out; simp; omega) (by have := u3.size; have := e3.size; have := u4.size; omega) ?_))
        rintro v5 w5 r5 hg5
        have u5 := R4.out.grew u4 (Nat.le_refl _) (by simpa using hg5)
        have R5 := Lib.hid r5
        obtain ⟨a5, c5, rfl⟩ := r5.form
        clear r5 hg5
        go_wp2
        go_ret
        exact ⟨_, rfl, by rw [HP.out]; simpa [List.append_assoc] using R5.out.ints, u5⟩
end Go.Proofs.Ytkkoidoinbiikaa
