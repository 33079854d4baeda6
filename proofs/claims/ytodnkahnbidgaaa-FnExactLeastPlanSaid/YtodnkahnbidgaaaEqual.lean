/- slices.Equal and slices.Clone of ints. -/
import Derived.Test.YtodnkahnbidgaaaApp
import Derived.Test.YtodnkahnbidgaaaBase
import Derived.Lib.SliceRun
namespace Go.Proofs.Ytodnkahnbidgaaa
open Go.RowKit

set_option maxHeartbeats 400000 in
theorem equalI_c (v1 v2 : Value) (xs ys : List Int) (w : World) (h1 : Ints w v1 xs) (h2 : Ints w v2 ys) :
    Calls Try.prog 97 #[v1, v2] w fun e w' => e = .returned (.bool (decide (xs = ys))) ∧ ∃ n, w' = w.drewN n := by
  obtain ⟨a1, c1, rfl, e1, e2, g1⟩ := h1
  obtain ⟨a2, c2, rfl, e3, e4, g2⟩ := h2
  have G1 := Lib.hid g1; clear g1
  have G2 := Lib.hid g2; clear g2
  have hl1 : xs.length ≤ 9223372036854775807 := by omega
  have hl2 : ys.length ≤ 9223372036854775807 := by omega
  go_enter Try.func97, Try.ntmps97
  by_cases hl : xs.length = ys.length
  · have hb : ((xs.length : Int) != (ys.length : Int)) = false := by simp [hl]
    have HL := Lib.hid hl; clear hl
    go_wp2
    go_loopw [13] (fun i wr => ∃ k : Nat, k ≤ xs.length ∧ i = .int .i64 k ∧ (∀ j, j < k → ix xs j = ix ys j) ∧ ∃ n, wr = w.drewN n) (fun i _ => xs.length - (intOf i).toNat)
    case atStart => exact ⟨0, Nat.zero_le _, rfl, fun j hj => by omega, 0, rfl⟩
    case round =>
      obtain ⟨k, hk, rfl, hj, n, rfl⟩ := hrel
      have HJ := Lib.hid hj; clear hj
      by_cases hlt : k < xs.length
      · have hlt2 : k < ys.length := by rw [← HL.out]; exact hlt
        obtain ⟨b1, o1, rfl, d1⟩ := G1.out k hlt
        obtain ⟨b2, o2, rfl, d2⟩ := G2.out k hlt2
        have hk0 : (0 : Int) ≤ (k : Int) := by omega
        have hk1 : (k : Int) < (xs.length : Int) := by omega
        have hk2 : (k : Int) < (ys.length : Int) := by omega
        by_cases he : ix xs k = ix ys k
        · have hne : (ix xs k != ix ys k) = false := by simp [he]
          have HE := Lib.hid he; clear he
          go_wp2_with fail
          go_quiet (fail)
          go_wp2
          go_roundw
          case rel => exact ⟨k + 1, by omega, by go_num, fun j hj => by
            by_cases e : j = k
            · subst e; exact HE.out
            · exact HJ.out j (by omega), n + nq, by simp⟩
          case measure => simp [intOf]; omega
        · have hne : (ix xs k != ix ys k) = true := by simp [he]
          have HE := Lib.hid he; clear he
          go_wp2_with fail
          go_quiet (fail)
          go_wp2
          go_ret
          refine ⟨ret_bool ?_, n + nq, by simp⟩
          have : xs ≠ ys := fun e => HE.out (by rw [e])
          simp [this]
      · go_wp2
        go_ret
        refine ⟨ret_bool ?_, _, rfl⟩
        have : xs = ys := list_ext_ix HL.out (fun j hj => HJ.out j (by omega))
        simp [this]
  · have hb : ((xs.length : Int) != (ys.length : Int)) = true := by simp; omega
    go_wp2
    go_ret
    refine ⟨ret_bool ?_, 0, rfl⟩
    have : xs ≠ ys := fun e => hl (by rw [e])
    simp [this]

theorem equalI_b (b : Bool) (v1 v2 : Value) (xs ys : List Int) (w : World) (hb : decide (xs = ys) = b) (h1 : Ints w v1 xs) (h2 : Ints w v2 ys) :
    Calls Try.prog 97 #[v1, v2] w fun e w' => e = .returned (.bool b) ∧ ∃ n, w' = w.drewN n := by
  subst hb; exact equalI_c v1 v2 xs ys w h1 h2


set_option maxHeartbeats 800000 in
theorem cloneI_c (v : Value) (xs : List Int) (w : World) (h : Ints w v xs) (hne : xs ≠ []) (hl : xs.length ≤ 1048576) :
    Calls Try.prog 84 #[v] w (RetInts (fun v' => v') w xs) := by
  obtain ⟨ao, cap, rfl, h1, h2, h3⟩ := h
  have h0 : 0 < xs.length := List.length_pos_iff.2 hne
  obtain ⟨b, o, rfl, hc0⟩ := h3 0 h0
  have HN : Hid (∀ j u, (xs.map (Value.int .i64))[j]? = some u → w.cell? ((⟨b, o, none⟩ : Addr).add j) = some u) := Lib.hid (fun j u hj => by
    have hjl : j < xs.length := by
      have := (List.getElem?_eq_some_iff.1 hj).1; simpa using this
    obtain ⟨b', o', e, hc⟩ := h3 j hjl
    simp only [Option.some.injEq, Addr.mk.injEq, and_true] at e
    obtain ⟨rfl, rfl⟩ := e
    have hu : u = .int .i64 (ix xs j) := by
      have h5 : (xs.map (Value.int .i64))[j]? = some (.int .i64 (ix xs j)) := by simp [ix, List.getD, hjl]
      rw [h5] at hj; exact (Option.some.inj hj).symm
    subst hu
    by_cases ej : j = 0
    · subst ej; simpa [Addr.add] using hc
    · simpa [Addr.add, ej] using hc)
  clear h3
  obtain ⟨i0, hi0, hz0, hz1, hz2⟩ := info_parts info_int
  have hmax : xs.length ≤ maxLen := by simp [maxLen]; omega
  have he : Ext w (w.alloc (.cells #[] 3)) := (Ext.refl w).alloc _
  have q22 : ∀ (w : World) (a : Option Addr) (n c : Nat), (binOp .eql 36 (.slice a n c) (.slice none 0 0)).run Try.prog w = .ok (.bool a.isNone) w := fun w a n c => Go.Lib.run_eql_slice_nil w _ _ a n c 0 0 Try.underlying36
  go_enter Try.func84, Try.ntmps84
  go_wp2_with (at_builtin; go_loud (refine wpList_append_lies _ rfl _ _ _ rfl w.heap.size 3 i0 _ 1 8 Try.underlying36 hi0 hz0 hz1 hz2 rfl (by omega) (.slice (some ⟨w.heap.size, 0, none⟩) 0 0) 0 [] rfl (And.intro rfl (.inr ⟨w.heap.size, 0, #[], rfl, Nat.le_refl _, Go.Deep.blk_alloc_new _ _, Nat.le_refl _, by simp [maxLen], rfl, rfl⟩)) ⟨b, o, none⟩ xs.length cap (xs.map (Value.int .i64)) rfl (by simp) (fun j u hj => Ext.cell he (HN.out j u hj)) (by intro u hu; obtain ⟨x, _, rfl⟩ := List.mem_map.1 hu; rfl) h0 (by omega) (by omega) (by simp) (w.heap.size + 1) (by simp) ?_))
  intro g cp w3 hown3 hgrow hat hlt3
  have hx := (he.of_upd (Upd.of_grown hgrow) (fun k hk => by simp [Value.ownBlock] at hk; omega))
  have HX := Lib.hid hx; clear hx hgrow
  have hown := Own.of_ownsRow (hi := w3.heap.size) (xs := xs) (by simpa using hown3) (Nat.le_refl _)
  have HOWN := Lib.hid hown; clear hown hown3
  go_wp2
  go_ret
  exact ⟨_, rfl, by simpa using HOWN.out, HX.out⟩
end Go.Proofs.Ytodnkahnbidgaaa
