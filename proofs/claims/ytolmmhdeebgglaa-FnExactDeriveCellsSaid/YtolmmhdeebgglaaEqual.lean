/- slices.Equal and slices.Clone of ints. -/
import Derived.Test.YtolmmhdeebgglaaApp
import Derived.Test.YtolmmhdeebgglaaBase
import Derived.Lib.SliceRun
namespace Go.Proofs.Ytolmmhdeebgglaa
open Go.RowKit




set_option maxHeartbeats 800000 in
theorem cloneI_c (v : Value) (xs : List Int) (w : World) (h : Ints w v xs) (hne : xs ≠ []) (hl : xs.length ≤ 1048576) :
    Calls Try.prog 48 #[v] w (RetInts (fun v' => v') w xs) := by
  obtain ⟨ao, cap, rfl, h1, h2, h3⟩ := h
  have h0 : 0 < xs.length := List.length_pos_iff.2 hne
  obtain ⟨b, o, rfl, hc0⟩ := h3 0 h0
  have HN : Hid (∀ j u, (xs.map (Value.int .i64))[j]? = some u → w.cell? ((⟨b, o, none⟩ : Addr).add j) = some u) := Lib.hid (fun j u hj => by
    have hjl : j < xs.length := by
      have := (List.getElem?_eq_some_iff.1 hj).1; simpa using this
    obtain ⟨b', o', e, hc⟩ := h3 j hjl
    simp only [Option.some.injEq, Addr.mk.injEq, and_true] at e
    obtain ⟨rfl, rfl⟩ := e
    have hu : u = .int .i64 (ix xs j) := by
      have h5 : (xs.map (Value.int .i64))[j]? = some (.int .i64 (ix xs j)) := by simp [ix, List.getD, hjl]
      rw [h5] at hj; exact (Option.some.inj hj).symm
    subst hu
    by_cases ej : j = 0
    · subst ej; simpa [Addr.add] using hc
    · simpa [Addr.add, ej] using hc)
  clear h3
  obtain ⟨i0, hi0, hz0, hz1, hz2⟩ := info_parts info_int
  have hmax : xs.length ≤ maxLen := by simp [maxLen]; omega
  have he : Ext w (w.alloc (.cells #[] 3)) := (Ext.refl w).alloc _
  have q22 : ∀ (w : World) (a : Option Addr) (n c : Nat), (binOp .eql 22 (.slice a n c) (.slice none 0 0)).run Try.prog w = .ok (.bool a.isNone) w := fun w a n c => Go.Lib.run_eql_slice_nil w _ _ a n c 0 0 Try.underlying22
  go_enter Try.func48, Try.ntmps48
  go_wp2_with (at_builtin; go_loud (refine wpList_append_lies _ rfl _ _ _ rfl w.heap.size 3 i0 _ 1 8 Try.underlying22 hi0 hz0 hz1 hz2 rfl (by omega) (.slice (some ⟨w.heap.size, 0, none⟩) 0 0) 0 [] rfl (And.intro rfl (.inr ⟨w.heap.size, 0, #[], rfl, Nat.le_refl _, Go.Deep.blk_alloc_new _ _, Nat.le_refl _, by simp [maxLen], rfl, rfl⟩)) ⟨b, o, none⟩ xs.length cap (xs.map (Value.int .i64)) rfl (by simp) (fun j u hj => Ext.cell he (HN.out j u hj)) (by intro u hu; obtain ⟨x, _, rfl⟩ := List.mem_map.1 hu; rfl) h0 (by omega) (by omega) (by simp) (w.heap.size + 1) (by simp) ?_))
  intro g cp w3 hown3 hgrow hat hlt3
  have hx := (he.of_upd (Upd.of_grown hgrow) (fun k hk => by simp [Value.ownBlock] at hk; omega))
  have HX := Lib.hid hx; clear hx hgrow
  have hown := Own.of_ownsRow (hi := w3.heap.size) (xs := xs) (by simpa using hown3) (Nat.le_refl _)
  have HOWN := Lib.hid hown; clear hown hown3
  go_wp2
  go_ret
  exact ⟨_, rfl, by simpa using HOWN.out, HX.out⟩
end Go.Proofs.Ytolmmhdeebgglaa
