/- MarginsOf, the spec's and the program's. -/
import Derived.Test.YtmffhipfodlomaaMarg
namespace Go.Proofs.Ytmffhipfodlomaa
open Go.RowKit
theorem matOk_of {x : List (List Int)} (h : gridB 7 10000 x = true) : MatOk x (rowAt x 0).length := by
  have g := gridB_true.1 h
  refine ⟨g.1, by omega, g.2.2.1, by omega, fun k hk => (g.2.2.2.2 k hk).1, fun k l hk hl => ?_⟩
  have := gridB_elem h hk (j := l) (by rw [(g.2.2.2.2 k hk).1]; exact hl)
  omega
def margV (x : List (List Int)) : Rd := if gridB 7 10000 x = true then margD x (rowAt x 0).length else ⟨[], [], [], 0⟩

set_option maxHeartbeats 1600000 in
theorem specMargins_c (v : Value) (x : List (List Int)) (w : World) (h : Grid w v x) :
    Calls Try.prog 42 #[v] w fun e w' => ∃ v', e = .returned (.tuple #[v', .bool (gridB 7 10000 x)]) ∧ RdN w.heap.size w'.heap.size w' v' (margV x) ∧ Ext w w' := by
  have H := Lib.hid h; clear h
  have u0 := (Ext.refl w).alloc (.cells #[.slice none 0 0, .slice none 0 0, .slice none 0 0, .int .i64 0] 39)
  have b0 := Box.new w 39 #[.slice none 0 0, .slice none 0 0, .slice none 0 0, .int .i64 0] rfl
  cases hx : gridB 7 10000 x
  · have hV : margV x = ⟨[], [], [], 0⟩ := by simp [margV, hx]
    rw [hV]; clear hV
    have HX := Lib.hid hx; clear hx
    go_enter Try.func42, Try.ntmps42
    go_wp2_with fail
    refine (oMatrix_b false _ x _ HX.out (H.out.ext u0)).mono ?_
    rintro e w' ⟨rfl, rfl⟩
    have f0 := b0.free 0
    have f1 := b0.free 1
    have f2 := b0.free 2
    have f3 := b0.free 3
    have k0 := b0.cell 0 (by simp)
    have k1 := b0.cell 1 (by simp)
    have k2 := b0.cell 2 (by simp)
    have k3 := b0.cell 3 (by simp)
    go_wp2
    refine bodyPost_ret (v := .tuple #[.agg #[.slice none 0 0, .slice none 0 0, .slice none 0 0, .int .i64 0], .bool false]) (by simp [results, Try.results42, go_sem, k0, k1, k2, k3]) rfl ⟨_, rfl, ⟨_, _, _, _, [], rfl, OwnG.nil, Own.nil, Own.nil, rfl⟩, ?_⟩
    first | exact u0 | exact u0.put4 (Nat.le_refl _) _ _ _ _
  · have hV : margV x = margD x (rowAt x 0).length := by simp [margV, hx]
    rw [hV]; clear hV
    have HM := Lib.hid (matOk_of hx)
    have HX := Lib.hid hx; clear hx
    go_enter Try.func42, Try.ntmps42
    go_wp2_with fail
    refine (oMatrix_b true _ x _ HX.out (H.out.ext u0)).mono ?_
    rintro e w0 ⟨rfl, rfl⟩
    go_wp2_with fail
    refine (oMargins_c _ x _ _ (H.out.ext u0) HM.out).mono ?_
    rintro e w1 ⟨v1, rfl, o1, u1⟩
    have O1 := Lib.hid o1
    obtain ⟨a0, c0, a1, c1, a2, c2, rfl, _⟩ := o1.read.form
    clear o1
    have b1 := b0.ext u1
    have f0 := b1.free 0
    have f1 := b1.free 1
    have f2 := b1.free 2
    have f3 := b1.free 3
    have k0 := b1.cell 0 (by simp)
    have k1 := b1.cell 1 (by simp)
    have k2 := b1.cell 2 (by simp)
    have k3 := b1.cell 3 (by simp)
    go_wp2
    refine bodyPost_ret (v := .tuple #[.agg #[.slice a0 (margD x (rowAt x 0).length).cells.length c0, .slice a1 (margD x (rowAt x 0).length).rows.length c1, .slice a2 (margD x (rowAt x 0).length).cols.length c2, .int .i64 (margD x (rowAt x 0).length).total], .bool true]) (by simp [results, Try.results42, go_sem, k0, k1, k2, k3]) rfl ⟨_, rfl, ?_, (u0.trans u1).put4 (Nat.le_refl _) _ _ _ _⟩
    have hs := put4_size w1 w.heap.size (.slice a0 (margD x (rowAt x 0).length).cells.length c0) (.slice a1 (margD x (rowAt x 0).length).rows.length c1) (.slice a2 (margD x (rowAt x 0).length).cols.length c2) (.int .i64 (margD x (rowAt x 0).length).total)
    exact (O1.out.away (Upd.put4 (Upd.refl w1) rfl _ _ _ _) (fun b hb => .inl (by subst hb; simp))).mono (by simp) (Nat.le_of_eq hs.symm)

set_option maxHeartbeats 1600000 in
theorem implMargins_c (v : Value) (x : List (List Int)) (w : World) (h : Grid w v x) :
    Calls Try.prog 43 #[v] w fun e w' => ∃ v', e = .returned (.tuple #[v', .bool (gridB 7 10000 x)]) ∧ RdO w.heap.size w'.heap.size w' v' (margV x) ∧ Ext w w' := by
  have H := Lib.hid h; clear h
  have u0 := (Ext.refl w).alloc (.cells #[.slice none 0 0, .slice none 0 0, .slice none 0 0, .int .i64 0] 39)
  have b0 := Box.new w 39 #[.slice none 0 0, .slice none 0 0, .slice none 0 0, .int .i64 0] rfl
  cases hx : gridB 7 10000 x
  · have hV : margV x = ⟨[], [], [], 0⟩ := by simp [margV, hx]
    rw [hV]; clear hV
    have HX := Lib.hid hx; clear hx
    go_enter Try.func43, Try.ntmps43
    go_wp2_with fail
    refine (isMatrix_b false _ x _ HX.out (H.out.ext u0)).mono ?_
    rintro e w' ⟨rfl, rfl⟩
    have f0 := b0.free 0
    have f1 := b0.free 1
    have f2 := b0.free 2
    have f3 := b0.free 3
    have k0 := b0.cell 0 (by simp)
    have k1 := b0.cell 1 (by simp)
    have k2 := b0.cell 2 (by simp)
    have k3 := b0.cell 3 (by simp)
    go_wp2
    refine bodyPost_ret (v := .tuple #[.agg #[.slice none 0 0, .slice none 0 0, .slice none 0 0, .int .i64 0], .bool false]) (by simp [results, Try.results43, go_sem, k0, k1, k2, k3]) rfl ⟨_, rfl, ⟨_, _, _, _, [], rfl, OwnG.nil, Own.nil, Own.nil, fun b h1 _ => by rcases h1 with h1 | ⟨k, hk, _⟩; exact h1.1 rfl; simp at hk, fun b h1 _ => by rcases h1 with h1 | ⟨k, hk, _⟩; exact h1.1 rfl; simp at hk, fun b h1 _ => h1.1 rfl, rfl⟩, ?_⟩
    first | exact u0 | exact u0.put4 (Nat.le_refl _) _ _ _ _
  · have hV : margV x = margD x (rowAt x 0).length := by simp [margV, hx]
    rw [hV]; clear hV
    have HM := Lib.hid (matOk_of hx)
    have HX := Lib.hid hx; clear hx
    go_enter Try.func43, Try.ntmps43
    go_wp2_with fail
    refine (isMatrix_b true _ x _ HX.out (H.out.ext u0)).mono ?_
    rintro e w0 ⟨rfl, rfl⟩
    go_wp2_with fail
    refine (summed_c _ x _ _ (H.out.ext u0) HM.out).mono ?_
    rintro e w1 ⟨v1, rfl, o1, u1⟩
    have O1 := Lib.hid o1
    obtain ⟨a0, c0, a1, c1, a2, c2, rfl, _⟩ := o1.read.form
    clear o1
    have b1 := b0.ext u1
    have f0 := b1.free 0
    have f1 := b1.free 1
    have f2 := b1.free 2
    have f3 := b1.free 3
    have k0 := b1.cell 0 (by simp)
    have k1 := b1.cell 1 (by simp)
    have k2 := b1.cell 2 (by simp)
    have k3 := b1.cell 3 (by simp)
    go_wp2
    refine bodyPost_ret (v := .tuple #[.agg #[.slice a0 (margD x (rowAt x 0).length).cells.length c0, .slice a1 (margD x (rowAt x 0).length).rows.length c1, .slice a2 (margD x (rowAt x 0).length).cols.length c2, .int .i64 (margD x (rowAt x 0).length).total], .bool true]) (by simp [results, Try.results43, go_sem, k0, k1, k2, k3]) rfl ⟨_, rfl, ?_, (u0.trans u1).put4 (Nat.le_refl _) _ _ _ _⟩
    have hs := put4_size w1 w.heap.size (.slice a0 (margD x (rowAt x 0).length).cells.length c0) (.slice a1 (margD x (rowAt x 0).length).rows.length c1) (.slice a2 (margD x (rowAt x 0).length).cols.length c2) (.int .i64 (margD x (rowAt x 0).length).total)
    exact (O1.out.away (Upd.put4 (Upd.refl w1) rfl _ _ _ _) (fun b hb => .inl (by subst hb; simp))).mono (by simp) (Nat.le_of_eq hs.symm)

end Go.Proofs.Ytmffhipfodlomaa