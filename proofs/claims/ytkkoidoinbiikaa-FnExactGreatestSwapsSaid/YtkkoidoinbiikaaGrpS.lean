/- KeyGroups, the spec's. -/
import Derived.Test.YtkkoidoinbiikaaGrp
namespace Go.Proofs.Ytkkoidoinbiikaa
open Go.RowKit

theorem small_rows {L : List (List Int)} (h1 : L.length ≤ 1000) (h2 : ∀ r ∈ L, r.length ≤ 40) : Small L := by
  have h3 : (L.map List.length).sum ≤ 40 * L.length := by
    clear h1
    induction L with
    | nil => simp
    | cons a t ih =>
      have := ih (fun r hr => h2 r (by simp [hr]))
      have := h2 a (by simp)
      simp only [List.map_cons, List.sum_cons, List.length_cons]
      omega
  exact Small.of_bound (by omega)
theorem kgV_small (s : List Vr) (l : List Pe) (vars : List Int) : Small (kgV s l vars) := by
  unfold kgV
  split
  · rename_i h
    have h40 := (inB_true.1 h).2.1
    have hk := keysS_len s l vars
    refine small_rows (by simp [grps]; omega) (fun r hr => ?_)
    obtain ⟨key, _, rfl⟩ := List.mem_map.1 hr
    have := grpTo_len s l vars key l.length
    omega
  · exact small_rows (by simp) (by simp)

set_option maxHeartbeats 1600000 in
theorem specKeyGroups_c (v1 : Value) (s : List Vr) (v2 : Value) (l : List Pe) (v3 : Value) (vars : List Int) (w : World) (h1 : Vrs w v1 s) (h2 : Pes w v2 l) (h3 : Ints w v3 vars) (hw : WfV s) :
    Calls Try.prog 22 #[v1, v2, v3] w (RetGrid (fun v' => .tuple #[v', .bool (kgB s l vars)]) w (kgV s l vars)) := by
  have H1 := Lib.hid h1; clear h1
  have H2 := Lib.hid h2; clear h2
  have H3 := Lib.hid h3; clear h3
  have HW := Lib.hid hw; clear hw
  cases hi : inB s l vars
  · have HB : Hid (kgV s l vars = [] ∧ kgB s l vars = false) := Lib.hid (by simp [kgV, kgB, hi])
    rw [HB.out.1, HB.out.2]
    have HI := Lib.hid hi; clear hi
    go_enter Try.func22, Try.ntmps22
    go_wp2_with fail
    refine (swInput_b false _ _ _ s l vars _ HI.out H1.out HW.out H2.out H3.out).mono ?_
    rintro e w1 ⟨rfl, u1⟩
    go_wp2
    go_ret2
    exact retGrid_nil u1
  · have HB : Hid (kgV s l vars = grps s l vars (keysS s l vars) ∧ kgB s l vars = true) := Lib.hid (by simp [kgV, kgB, hi])
    rw [HB.out.1, HB.out.2]
    have HI := Lib.hid hi
    have h40 := (inB_true.1 hi).2.1
    have HKO : Hid (∀ k, k < l.length → KeyOk s (peAt l k).vals vars) := Lib.hid (fun k hk => keyOk_of hi hk)
    clear hi
    go_enter Try.func22, Try.ntmps22
    go_wp2_with fail
    refine (swInput_b true _ _ _ s l vars _ HI.out H1.out HW.out H2.out H3.out).mono ?_
    rintro e w1 ⟨rfl, u1⟩
    go_wp2_with fail
    refine (swGroups_c _ _ _ s l vars _ (H1.out.ext u1) (H2.out.ext u1) (H3.out.ext u1) h40 HKO.out).mono ?_
    rintro e w2 ⟨v', rvs, rfl, o2, u2⟩
    have HO := Lib.hid (o2.mono (lo' := w.heap.size) u1.size (Nat.le_refl _)); clear o2
    go_wp2
    go_ret2
    exact ⟨_, rvs, rfl, HO.out, u1.trans u2⟩
end Go.Proofs.Ytkkoidoinbiikaa
