/- RoundingNetwork, the spec's and the program's. -/
import Derived.Test.YtjpomfdmgaambaaRnO
import Derived.Test.YtjpomfdmgaambaaRnI
import Derived.Test.YtjpomfdmgaambaaMat
import Derived.Test.YtjpomfdmgaambaaOb
import Derived.Test.YtjpomfdmgaambaaRgOf
namespace Go.Proofs.Ytjpomfdmgaambaa
open Go.RowKit
def rnB (x : List (List Int)) (base : Int) : Bool := gridB 7 10000 x && (decide (2 ≤ base) && decide (base ≤ 100))
def rnNV (x : List (List Int)) (base : Int) : Tr := if rnB x base = true then rnT x x.length (rowAt x 0).length base else ⟨[], [], [], []⟩
theorem rn_matOk {x : List (List Int)} (h : gridB 7 10000 x = true) : MatOk x (rowAt x 0).length := by
  have g := gridB_true.1 h
  refine ⟨g.1, by omega, g.2.2.1, by omega, fun k hk => (g.2.2.2.2 k hk).1, fun k l hk hl => ?_⟩
  have := gridB_elem h hk (j := l) (by rw [(g.2.2.2.2 k hk).1]; exact hl)
  omega
theorem rn_el {x : List (List Int)} (h : gridB 7 10000 x = true) : ∀ k l, k < x.length → l < (rowAt x 0).length → 0 ≤ ix (rowAt x k) l ∧ ix (rowAt x k) l ≤ 10000 := fun k l hk hl =>
  gridB_elem h hk (j := l) (by have g := gridB_true.1 h; rw [(g.2.2.2.2 k hk).1]; exact hl)
theorem rn_dim {x : List (List Int)} (h : gridB 7 10000 x = true) : 1 ≤ x.length ∧ x.length ≤ 7 ∧ 1 ≤ (rowAt x 0).length ∧ (rowAt x 0).length ≤ 7 := by
  have g := gridB_true.1 h
  exact ⟨g.1, g.2.1, g.2.2.1, g.2.2.2.1⟩
theorem rn_nIB {v : Value} {b : Nat} (h : IB v [] b) : False := h.1 rfl
theorem rn_nGB {v : Value} {r : List Value} {b : Nat} (h : GB v r [] b) : False := by
  rcases h with h | ⟨k, hk, _⟩
  · exact h.1 rfl
  · simp at hk
theorem rnNV_small (x : List (List Int)) (base : Int) : TrSmall (rnNV x base) := by
  unfold rnNV
  split
  · rename_i h
    have g := rn_dim (x := x) (by unfold rnB at h; simp only [Bool.and_eq_true] at h; exact h.1)
    have N := netOf (x := x) (n := x.length) (m := (rowAt x 0).length) (base := base)
    exact ⟨by rw [N.r1]; omega, by rw [N.c1]; omega, Small.of_rows8 (by rw [N.l1]; omega) (fun k hk => by rw [N.ll k (by rw [N.l1] at hk; exact hk)]; omega), Small.of_rows8 (by rw [N.h1]; omega) (fun k hk => by rw [N.hl k (by rw [N.h1] at hk; exact hk)]; omega)⟩
  · exact ⟨by simp, by simp, Small.of_rows8 (by simp) (fun k hk => by simp at hk), Small.of_rows8 (by simp) (fun k hk => by simp at hk)⟩

set_option maxRecDepth 100000 in
set_option maxHeartbeats 3200000 in
theorem specRn_c (v1 : Value) (x : List (List Int)) (base : Int) (w : World) (h1 : Grid w v1 x) :
    Calls Try.prog 18 #[v1, .int .i64 base] w fun e w' => ∃ v', e = .returned (.tuple #[v', .bool (rnB x base)]) ∧ TrN w.heap.size w'.heap.size w' v' (rnNV x base) ∧ Ext w w' := by
  have H1 := Lib.hid h1; clear h1
  have u0 := (Ext.refl w).alloc (.cells #[.slice none 0 0, .slice none 0 0, .slice none 0 0, .slice none 0 0] 30)
  have b0 := Box.new w 30 #[.slice none 0 0, .slice none 0 0, .slice none 0 0, .slice none 0 0] rfl
  have nothing : ∀ (w' : World), Ext w w' → TrN w.heap.size w'.heap.size w' (.agg #[.slice none 0 0, .slice none 0 0, .slice none 0 0, .slice none 0 0]) ⟨[], [], [], []⟩ := fun w' _ => ⟨_, _, _, _, [], [], rfl, Own.nil, Own.nil, OwnG.nil, OwnG.nil⟩
  cases hg : rnB x base
  · have hV : rnNV x base = ⟨[], [], [], []⟩ := by simp [rnNV, hg]
    rw [hV]; clear hV
    have HG := Lib.hid (show (gridB 7 10000 x && (decide (2 ≤ base) && decide (base ≤ 100))) = false from hg); clear hg
    go_enter Try.func18, Try.ntmps18
    go_wp2_with fail
    refine (oGood_b false _ x base _ HG.out (H1.out.ext u0)).mono ?_
    rintro e w' ⟨rfl, rfl⟩
    have f0 := b0.free 0
    have f1 := b0.free 1
    have f2 := b0.free 2
    have f3 := b0.free 3
    have k0 := b0.cell 0 (by simp)
    have k1 := b0.cell 1 (by simp)
    have k2 := b0.cell 2 (by simp)
    have k3 := b0.cell 3 (by simp)
    go_wp2
    refine bodyPost_ret (v := .tuple #[.agg #[.slice none 0 0, .slice none 0 0, .slice none 0 0, .slice none 0 0], .bool false]) (by simp [results, Try.results18, go_sem, k0, k1, k2, k3]) rfl ⟨_, rfl, nothing _ ?_, ?_⟩
    · first | exact u0 | exact u0.put4 (Nat.le_refl _) _ _ _ _
    · first | exact u0 | exact u0.put4 (Nat.le_refl _) _ _ _ _
  · have HVT := Lib.hid (show rnNV x base = rnT x x.length (rowAt x 0).length base by simp [rnNV, hg])
    have HG := Lib.hid (show (gridB 7 10000 x && (decide (2 ≤ base) && decide (base ≤ 100))) = true from hg); clear hg
    have hg := HG.out
    simp only [Bool.and_eq_true, decide_eq_true_eq] at hg
    have HX := Lib.hid hg.1
    have hbs := hg.2
    clear hg
    go_enter Try.func18, Try.ntmps18
    go_wp2_with fail
    refine (oGood_b true _ x base _ HG.out (H1.out.ext u0)).mono ?_
    rintro e w' ⟨rfl, rfl⟩
    go_wp2_with fail
    refine (oNetwork_c _ x x.length (rowAt x 0).length base _ (H1.out.ext u0) rfl (rn_matOk HX.out) (rn_el HX.out) (rn_dim HX.out) hbs.1 hbs.2).mono ?_
    rintro e w2 ⟨v2, rfl, o2, u2⟩
    have O2 := Lib.hid o2
    obtain ⟨a0, c0, a1, c1, a2, c2, a3, c3, rfl, _⟩ := o2.read.form
    clear o2
    have b2 := b0.ext u2
    have f0 := b2.free 0
    have f1 := b2.free 1
    have f2 := b2.free 2
    have f3 := b2.free 3
    have k0 := b2.cell 0 (by simp)
    have k1 := b2.cell 1 (by simp)
    have k2 := b2.cell 2 (by simp)
    have k3 := b2.cell 3 (by simp)
    obtain ⟨T, hT⟩ : ∃ T, rnT x x.length (rowAt x 0).length base = T := ⟨_, rfl⟩
    rw [hT] at O2 HVT ⊢
    clear hT
    go_wp2
    refine bodyPost_ret (v := .tuple #[.agg #[.slice a0 T.rows.length c0, .slice a1 T.cols.length c1, .slice a2 T.lo.length c2, .slice a3 T.hi.length c3], .bool true]) (by simp [results, Try.results18, go_sem, k0, k1, k2, k3]) rfl ⟨_, rfl, ?_, (u0.trans u2).put4 (Nat.le_refl _) _ _ _ _⟩
    have hs := put4_size w2 w.heap.size (.slice a0 T.rows.length c0) (.slice a1 T.cols.length c1) (.slice a2 T.lo.length c2) (.slice a3 T.hi.length c3)
    have hlt : w.heap.size < (w.alloc (.cells #[.slice none 0 0, .slice none 0 0, .slice none 0 0, .slice none 0 0] 30)).heap.size := by simp
    rw [HVT.out]
    exact (O2.out.away (Upd.put4 (Upd.refl w2) rfl _ _ _ _) (fun b hb => .inl (by subst hb; exact hlt))).mono (Nat.le_of_lt hlt) (Nat.le_of_eq hs.symm)

set_option maxRecDepth 100000 in
set_option maxHeartbeats 3200000 in
theorem implRn_c (v1 : Value) (x : List (List Int)) (base : Int) (w : World) (h1 : Grid w v1 x) :
    Calls Try.prog 19 #[v1, .int .i64 base] w fun e w' => ∃ v', e = .returned (.tuple #[v', .bool (rnB x base)]) ∧ TrO w.heap.size w'.heap.size w' v' (rnNV x base) ∧ Ext w w' := by
  have H1 := Lib.hid h1; clear h1
  have u0 := (Ext.refl w).alloc (.cells #[.slice none 0 0, .slice none 0 0, .slice none 0 0, .slice none 0 0] 30)
  have b0 := Box.new w 30 #[.slice none 0 0, .slice none 0 0, .slice none 0 0, .slice none 0 0] rfl
  have nothing : ∀ (w' : World), Ext w w' → TrO w.heap.size w'.heap.size w' (.agg #[.slice none 0 0, .slice none 0 0, .slice none 0 0, .slice none 0 0]) ⟨[], [], [], []⟩ := fun w' _ => ⟨_, _, _, _, [], [], rfl, Own.nil, Own.nil, OwnG.nil, OwnG.nil, fun b h _ => rn_nIB h, fun b h _ => rn_nIB h, fun b h _ => rn_nIB h, fun b h _ => rn_nIB h, fun b h _ => rn_nIB h, fun b h _ => rn_nGB h⟩
  cases hx : gridB 7 10000 x
  · have hg : rnB x base = false := by unfold rnB; rw [hx]; rfl
    have hV : rnNV x base = ⟨[], [], [], []⟩ := by simp [rnNV, hg]
    rw [hV, hg]; clear hV hg
    have HX := Lib.hid hx; clear hx
    go_enter Try.func19, Try.ntmps19
    go_wp2_with fail
    refine (isMatrix_b false _ x _ HX.out (H1.out.ext u0)).mono ?_
    rintro e w' ⟨rfl, rfl⟩
    have f0 := b0.free 0
    have f1 := b0.free 1
    have f2 := b0.free 2
    have f3 := b0.free 3
    have k0 := b0.cell 0 (by simp)
    have k1 := b0.cell 1 (by simp)
    have k2 := b0.cell 2 (by simp)
    have k3 := b0.cell 3 (by simp)
    go_wp2
    refine bodyPost_ret (v := .tuple #[.agg #[.slice none 0 0, .slice none 0 0, .slice none 0 0, .slice none 0 0], .bool false]) (by simp [results, Try.results19, go_sem, k0, k1, k2, k3]) rfl ⟨_, rfl, nothing _ ?_, ?_⟩
    · first | exact u0 | exact u0.put4 (Nat.le_refl _) _ _ _ _
    · first | exact u0 | exact u0.put4 (Nat.le_refl _) _ _ _ _
  cases hbb : (decide (2 ≤ base) && decide (base ≤ 100))
  · have hg : rnB x base = false := by unfold rnB; rw [hx, hbb]; rfl
    have hV : rnNV x base = ⟨[], [], [], []⟩ := by simp [rnNV, hg]
    rw [hV, hg]; clear hV hg
    have HX := Lib.hid hx; clear hx
    have HBB := Lib.hid hbb; clear hbb
    go_enter Try.func19, Try.ntmps19
    go_wp2_with fail
    refine (isMatrix_b true _ x _ HX.out (H1.out.ext u0)).mono ?_
    rintro e w' ⟨rfl, rfl⟩
    go_wp2_with fail
    refine (isBaseOf_b false base _ HBB.out).mono ?_
    rintro e w' ⟨rfl, rfl⟩
    have f0 := b0.free 0
    have f1 := b0.free 1
    have f2 := b0.free 2
    have f3 := b0.free 3
    have k0 := b0.cell 0 (by simp)
    have k1 := b0.cell 1 (by simp)
    have k2 := b0.cell 2 (by simp)
    have k3 := b0.cell 3 (by simp)
    go_wp2
    refine bodyPost_ret (v := .tuple #[.agg #[.slice none 0 0, .slice none 0 0, .slice none 0 0, .slice none 0 0], .bool false]) (by simp [results, Try.results19, go_sem, k0, k1, k2, k3]) rfl ⟨_, rfl, nothing _ ?_, ?_⟩
    · first | exact u0 | exact u0.put4 (Nat.le_refl _) _ _ _ _
    · first | exact u0 | exact u0.put4 (Nat.le_refl _) _ _ _ _
  have hg : rnB x base = true := by unfold rnB; rw [hx, hbb]; rfl
  have HVT := Lib.hid (show rnNV x base = rnT x x.length (rowAt x 0).length base by simp [rnNV, hg])
  rw [hg]; clear hg
  have hbs : 2 ≤ base ∧ base ≤ 100 := by simpa using hbb
  have HX := Lib.hid hx; clear hx
  have HBB := Lib.hid hbb; clear hbb
  go_enter Try.func19, Try.ntmps19
  go_wp2_with fail
  refine (isMatrix_b true _ x _ HX.out (H1.out.ext u0)).mono ?_
  rintro e w' ⟨rfl, rfl⟩
  go_wp2_with fail
  refine (isBaseOf_b true base _ HBB.out).mono ?_
  rintro e w' ⟨rfl, rfl⟩
  go_wp2_with fail
  refine (roundingNetwork_c _ x x.length (rowAt x 0).length base _ (H1.out.ext u0) rfl (rn_matOk HX.out) (rn_el HX.out) (rn_dim HX.out) hbs.1 hbs.2).mono ?_
  rintro e w2 ⟨v2, rfl, o2, u2⟩
  have O2 := Lib.hid o2
  obtain ⟨a0, c0, a1, c1, a2, c2, a3, c3, rfl, _⟩ := o2.read.form
  clear o2
  have b2 := b0.ext u2
  have f0 := b2.free 0
  have f1 := b2.free 1
  have f2 := b2.free 2
  have f3 := b2.free 3
  have k0 := b2.cell 0 (by simp)
  have k1 := b2.cell 1 (by simp)
  have k2 := b2.cell 2 (by simp)
  have k3 := b2.cell 3 (by simp)
  obtain ⟨T, hT⟩ : ∃ T, rnT x x.length (rowAt x 0).length base = T := ⟨_, rfl⟩
  rw [hT] at O2 HVT ⊢
  clear hT
  go_wp2
  refine bodyPost_ret (v := .tuple #[.agg #[.slice a0 T.rows.length c0, .slice a1 T.cols.length c1, .slice a2 T.lo.length c2, .slice a3 T.hi.length c3], .bool true]) (by simp [results, Try.results19, go_sem, k0, k1, k2, k3]) rfl ⟨_, rfl, ?_, (u0.trans u2).put4 (Nat.le_refl _) _ _ _ _⟩
  have hs := put4_size w2 w.heap.size (.slice a0 T.rows.length c0) (.slice a1 T.cols.length c1) (.slice a2 T.lo.length c2) (.slice a3 T.hi.length c3)
  have hlt : w.heap.size < (w.alloc (.cells #[.slice none 0 0, .slice none 0 0, .slice none 0 0, .slice none 0 0] 30)).heap.size := by simp
  rw [HVT.out]
  exact (O2.out.away (Upd.put4 (Upd.refl w2) rfl _ _ _ _) (fun b hb => .inl (by subst hb; exact hlt))).mono (Nat.le_of_lt hlt) (Nat.le_of_eq hs.symm)
end Go.Proofs.Ytjpomfdmgaambaa
