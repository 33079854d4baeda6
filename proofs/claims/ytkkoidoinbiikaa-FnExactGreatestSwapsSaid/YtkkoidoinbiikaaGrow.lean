/- Grids that a call builds by append of fresh rows; copies of matrices. -/
import Derived.Test.YtkkoidoinbiikaaApp
import Derived.Test.YtkkoidoinbiikaaBase
import Derived.Test.YtkkoidoinbiikaaEqual
namespace Go.Proofs.Ytkkoidoinbiikaa
open Go.RowKit

/-- a slice of rows in a block of the call's own, each row in a block of its own below hi -/
structure GRow (lo hi : Nat) (w : World) (v : Value) (rvs : List Value) (xss : List (List Int)) : Prop where
  own : w.ownsRow lo 24 1 v xss.length rvs
  row : ∀ k, k < xss.length → Own lo hi w (rvAt rvs k) (rowAt xss k)
  diff : ∀ j k, j < xss.length → k < xss.length → j ≠ k → rowAt xss j ≠ [] → rowAt xss k ≠ [] → blk (rvAt rvs j) ≠ blk (rvAt rvs k)
namespace GRow
variable {lo hi hi' : Nat} {w w' : World} {v : Value} {rvs : List Value} {xss : List (List Int)}
theorem nil : GRow lo hi w (.slice none 0 0) [] [] := ⟨World.ownsRow_nil _ _ _ _, fun k hk => by simp at hk, fun j k hj => by simp at hj⟩
theorem len (h : GRow lo hi w v rvs xss) : rvs.length = xss.length := by have := h.own.1; simpa using this
theorem ext (h : GRow lo hi w v rvs xss) (u : Ext w w') : GRow lo hi w' v rvs xss :=
  ⟨World.ownsRow.kept h.own (w' := w') (row := none) ⟨u.os, u.tape, u.output, u.size, fun k hk _ => u.block hk⟩ (by cases v.ownBlock <;> simp), fun k hk => (h.row k hk).ext u, h.diff⟩
theorem mono (h : GRow lo hi w v rvs xss) (hh : hi ≤ hi') : GRow lo hi' w v rvs xss := ⟨h.own, fun k hk => (h.row k hk).mono (Nat.le_refl _) hh, h.diff⟩
theorem blk (h : GRow lo hi w v rvs xss) {b : Nat} (hb : v.ownBlock = some b) : lo ≤ b ∧ b < w.heap.size := World.ownsRow.lt h.own b hb
theorem ownG (h : GRow lo hi w v rvs xss) (hh : w.heap.size ≤ hi') (h2 : hi ≤ hi') : OwnG lo hi' w v rvs xss :=
  OwnG.of_ownsRow h.own rfl hh (fun k hk => (h.row k hk).mono (Nat.le_refl _) h2) h.diff
theorem grew {u : World} (h : GRow lo hi w v rvs xss) (hx : Ext u w) (hlo : u.heap.size ≤ lo) (hg : w.grownBy w' v.ownBlock) : Ext u w' :=
  hx.of_upd (Upd.of_grown hg) (fun b hb => by have := (h.blk hb).1; omega)
/-- a fresh row (numbered from hi on) is appended -/
theorem push {x v' : Value} {r : List Int} (h : GRow lo hi w v rvs xss) (hlo : lo ≤ hi) (hx : Own hi hi' w x r) (h2 : hi ≤ hi') (hg : w.grownBy w' v.ownBlock) (hv : w'.ownsRow lo 24 1 v' (xss.length + 1) (rvs ++ [x])) :
    GRow lo hi' w' v' (rvs ++ [x]) (xss ++ [r]) := by
  have hl := h.len
  have keep : ∀ {lo2 : Nat} (y : Value) (ys : List Int), Own lo2 hi' w y ys → Own lo2 hi' w' y ys := fun y ys ho =>
    ho.upd (Upd.of_grown hg) (fun hy e => ho.ne_ownsRow h.own hy e)
  have old : ∀ j, j < xss.length → rvAt (rvs ++ [x]) j = rvAt rvs j ∧ rowAt (xss ++ [r]) j = rowAt xss j := fun j hj =>
    ⟨rvAt_append_left (by omega), by simp [rowAt, List.getD, hj, List.getElem?_append_left]⟩
  have new : rvAt (rvs ++ [x]) xss.length = x ∧ rowAt (xss ++ [r]) xss.length = r := by
    refine ⟨?_, by simp [rowAt, List.getD]⟩
    have := @rvAt_append_len rvs x; rwa [hl] at this
  refine ⟨by simpa using hv, fun k hk => ?_, fun j k hj hk hjk h1 h2' => ?_⟩
  · simp at hk
    by_cases e : k = xss.length
    · subst e; rw [new.1, new.2]; exact (keep _ _ hx).mono hlo (Nat.le_refl _)
    · rw [(old k (by omega)).1, (old k (by omega)).2]; exact keep _ _ ((h.row k (by omega)).mono (Nat.le_refl _) h2)
  · simp at hj hk
    by_cases e1 : j = xss.length
    · subst e1
      rw [new.1, (old k (by omega)).1]
      rw [new.2] at h1
      rw [(old k (by omega)).2] at h2'
      have a1 := hx.range h1
      have a2 := (h.row k (by omega)).range h2'
      omega
    · rw [(old j (by omega)).1]
      rw [(old j (by omega)).2] at h1
      by_cases e2 : k = xss.length
      · subst e2
        rw [new.1]
        rw [new.2] at h2'
        have a1 := hx.range h2'
        have a2 := (h.row j (by omega)).range h1
        omega
      · rw [(old k (by omega)).1]
        rw [(old k (by omega)).2] at h2'
        exact h.diff j k (by omega) (by omega) hjk h1 h2'
end GRow


set_option maxHeartbeats 800000 in
theorem l1Own_c (v : Value) (xs : List Int) (w : World) (h : Ints w v xs) (hne : xs ≠ []) (hl : xs.length ≤ 1048576) :
    Calls Try.prog 122 #[v] w (RetInts (fun v' => v') w xs) := by
  obtain ⟨ao, cap, rfl, h1, h2, h3⟩ := h
  have h0 : 0 < xs.length := List.length_pos_iff.2 hne
  obtain ⟨b, o, rfl, hc0⟩ := h3 0 h0
  have HN : Hid (∀ j u, (xs.map (Value.int .i64))[j]? = some u → w.cell? ((⟨b, o, none⟩ : Addr).add j) = some u) := Lib.hid (fun j u hj => by
    have hjl : j < xs.length := by
      have := (List.getElem?_eq_some_iff.1 hj).1; simpa using this
    obtain ⟨b', o', e, hc⟩ := h3 j hjl
    simp only [Option.some.injEq, Addr.mk.injEq, and_true] at e
    obtain ⟨rfl, rfl⟩ := e
    have hu : u = .int .i64 (ix xs j) := by
      have h5 : (xs.map (Value.int .i64))[j]? = some (.int .i64 (ix xs j)) := by simp [ix, List.getD, hjl]
      rw [h5] at hj; exact (Option.some.inj hj).symm
    subst hu
    by_cases ej : j = 0
    · subst ej; simpa [Addr.add] using hc
    · simpa [Addr.add, ej] using hc)
  clear h3
  obtain ⟨i0, hi0, hz0, hz1, hz2⟩ := info_parts info_int
  have hmax : xs.length ≤ maxLen := by simp [maxLen]; omega
  have he : Ext w (w.alloc (.cells #[] 3)) := (Ext.refl w).alloc _
  go_enter Try.func122, Try.ntmps122
  go_wp2_with (at_builtin; go_loud (refine wpList_append_lies _ rfl _ _ _ rfl w.heap.size 3 i0 _ 1 8 Try.underlying24 hi0 hz0 hz1 hz2 rfl (by omega) (.slice (some ⟨w.heap.size, 0, none⟩) 0 0) 0 [] rfl (And.intro rfl (.inr ⟨w.heap.size, 0, #[], rfl, Nat.le_refl _, Go.Deep.blk_alloc_new _ _, Nat.le_refl _, by simp [maxLen], rfl, rfl⟩)) ⟨b, o, none⟩ xs.length cap (xs.map (Value.int .i64)) rfl (by simp) (fun j u hj => Ext.cell he (HN.out j u hj)) (by intro u hu; obtain ⟨x, _, rfl⟩ := List.mem_map.1 hu; rfl) h0 (by omega) (by omega) (by simp) (w.heap.size + 1) (by simp) ?_))
  intro g cp w3 hown3 hgrow hat hlt3
  have hx := (he.of_upd (Upd.of_grown hgrow) (fun k hk => by simp [Value.ownBlock] at hk; omega))
  have HX := Lib.hid hx; clear hx hgrow
  have hown := Own.of_ownsRow (hi := w3.heap.size) (xs := xs) (by simpa using hown3) (Nat.le_refl _)
  have HOWN := Lib.hid hown; clear hown hown3
  go_wp2
  go_ret
  exact ⟨_, rfl, by simpa using HOWN.out, HX.out⟩

end Go.Proofs.Ytkkoidoinbiikaa
