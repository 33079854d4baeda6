/- slices.Clone and l1Own of whatever slice of ints, be it empty; slices.Reverse over own slices. -/
import Derived.Test.YtmfbbkackdmbpaaPut
import Derived.Test.YtmfbbkackdmbpaaSort
namespace Go.Proofs.Ytmfbbkackdmbpaa
open Go.RowKit Go.Sort

set_option maxHeartbeats 800000 in
theorem cloneG_c (v : Value) (xs : List Int) (w : World) (h : Ints w v xs) (hl : xs.length ≤ 1048576) :
    Calls Try.prog 19 #[v] w (RetInts (fun v' => v') w xs) := by
  have H := Lib.hid h
  obtain ⟨ao, cap, rfl, h1, h2, h3⟩ := h
  have q22 : ∀ (w : World) (a : Option Addr) (n c : Nat), (binOp .eql 22 (.slice a n c) (.slice none 0 0)).run Try.prog w = .ok (.bool a.isNone) w := fun w a n c => Go.Lib.run_eql_slice_nil w _ _ a n c 0 0 Try.underlying22
  rcases ao with _ | ad
  · have hx : xs = [] := by
      by_cases e : xs = []
      · exact e
      · obtain ⟨b, o, e', _⟩ := h3 0 (List.length_pos_iff.2 e)
        cases e'
    subst hx
    clear h3
    go_enter Try.func19, Try.ntmps19
    go_wp2
    go_ret
    exact ⟨_, rfl, Own.nil, Ext.refl w⟩
  · clear h3
    have e0 := (Ext.refl w).alloc (.cells #[] 3)
    go_enter Try.func19, Try.ntmps19
    go_wp2_with (at_builtin; go_loud (refine appI _ rfl _ _ rfl w.heap.size _ [] rfl (IRow.made w) _ xs rfl (H.out.ext e0) (by simp; omega) (by simp) ?_))
    rintro v3 w3 r3 hg3
    have u3 := (IRow.made w).grew e0 (Nat.le_refl _) hg3
    have r3' : IRow w.heap.size w3 v3 xs := r3
    have R3 := Lib.hid (r3'.own (Nat.le_refl _)); clear r3 r3' hg3
    go_wp2
    go_ret
    exact ⟨_, rfl, R3.out, u3⟩
set_option maxHeartbeats 800000 in
theorem l1OwnG_c (v : Value) (xs : List Int) (w : World) (h : Ints w v xs) (hl : xs.length ≤ 1048576) :
    Calls Try.prog 18 #[v] w (RetInts (fun v' => v') w xs) := by
  have H := Lib.hid h
  obtain ⟨ao, cap, rfl, h1, h2, h3⟩ := h
  clear h3
  have e0 := (Ext.refl w).alloc (.cells #[] 3)
  go_enter Try.func18, Try.ntmps18
  go_wp2_with (at_builtin; go_loud (refine appI _ rfl _ _ rfl w.heap.size _ [] rfl (IRow.made w) _ xs rfl (H.out.ext e0) (by simp; omega) (by simp) ?_))
  rintro v3 w3 r3 hg3
  have u3 := (IRow.made w).grew e0 (Nat.le_refl _) hg3
  have r3' : IRow w.heap.size w3 v3 xs := r3
  have R3 := Lib.hid (r3'.own (Nat.le_refl _)); clear r3 r3' hg3
  go_wp2
  go_ret
  exact ⟨_, rfl, R3.out, u3⟩
end Go.Proofs.Ytmfbbkackdmbpaa
