/- AttackNetwork, the spec's and the program's. -/
import Derived.Test.YtmffhipfodlomaaQnet
namespace Go.Proofs.Ytmffhipfodlomaa
open Go.RowKit
def atkV (x p : List (List Int)) : Tr := if pubB x p = true then atkT x p else ⟨[], [], [], []⟩
theorem not_IB_nil {v : Value} {b : Nat} (h : IB v [] b) : False := h.1 rfl
theorem not_GB_nil {v : Value} {r : List Value} {b : Nat} (h : GB v r [] b) : False := by
  rcases h with h | ⟨k, hk, _⟩
  · exact h.1 rfl
  · simp at hk

set_option maxHeartbeats 1600000 in
theorem specAtk_c (v1 : Value) (x : List (List Int)) (v2 : Value) (p : List (List Int)) (w : World) (h1 : Grid w v1 x) (h2 : Grid w v2 p) :
    Calls Try.prog 46 #[v1, v2] w fun e w' => ∃ v', e = .returned (.tuple #[v', .bool (pubB x p)]) ∧ TrN w.heap.size w'.heap.size w' v' (atkV x p) ∧ Ext w w' := by
  have H1 := Lib.hid h1; clear h1
  have H2 := Lib.hid h2; clear h2
  have u0 := (Ext.refl w).alloc (.cells #[.slice none 0 0, .slice none 0 0, .slice none 0 0, .slice none 0 0] 28)
  have b0 := Box.new w 28 #[.slice none 0 0, .slice none 0 0, .slice none 0 0, .slice none 0 0] rfl
  cases hq : pubB x p
  · have hV : atkV x p = ⟨[], [], [], []⟩ := by simp [atkV, hq]
    rw [hV]; clear hV
    have HQ := Lib.hid hq; clear hq
    go_enter Try.func46, Try.ntmps46
    go_wp2_with fail
    refine (qPattern_b false _ _ x p _ HQ.out (H1.out.ext u0) (H2.out.ext u0)).mono ?_
    rintro e w1 ⟨rfl, d1'⟩
    have d1 := d1'.ext
    have b1 := b0.ext d1
    have v1 := u0.trans d1
    have f0 := b1.free 0
    have f1 := b1.free 1
    have f2 := b1.free 2
    have f3 := b1.free 3
    have k0 := b1.cell 0 (by simp)
    have k1 := b1.cell 1 (by simp)
    have k2 := b1.cell 2 (by simp)
    have k3 := b1.cell 3 (by simp)
    go_wp2
    refine bodyPost_ret (v := .tuple #[.agg #[.slice none 0 0, .slice none 0 0, .slice none 0 0, .slice none 0 0], .bool false]) (by simp [results, Try.results46, go_sem, k0, k1, k2, k3]) rfl ⟨_, rfl, ⟨_, _, _, _, [], [], rfl, Own.nil, Own.nil, OwnG.nil, OwnG.nil⟩, ?_⟩
    first | exact v1 | exact v1.put4 (Nat.le_refl _) _ _ _ _
  · have hV : atkV x p = atkT x p := by simp [atkV, hq]
    rw [hV]; clear hV
    have HQ := Lib.hid hq; clear hq
    go_enter Try.func46, Try.ntmps46
    go_wp2_with fail
    refine (qPattern_b true _ _ x p _ HQ.out (H1.out.ext u0) (H2.out.ext u0)).mono ?_
    rintro e w1 ⟨rfl, d1'⟩
    have d1 := d1'.ext
    have b1 := b0.ext d1
    have v1 := u0.trans d1
    go_wp2_with fail
    refine (qNetwork_c _ x _ p _ (H1.out.ext v1) (H2.out.ext v1) HQ.out).mono ?_
    rintro e w2 ⟨v2, rfl, o2, u2⟩
    have O2 := Lib.hid o2
    obtain ⟨a0, c0, a1, c1, a2, c2, a3, c3, rfl, _⟩ := o2.read.form
    clear o2
    have b2 := b1.ext u2
    have f0 := b2.free 0
    have f1 := b2.free 1
    have f2 := b2.free 2
    have f3 := b2.free 3
    have k0 := b2.cell 0 (by simp)
    have k1 := b2.cell 1 (by simp)
    have k2 := b2.cell 2 (by simp)
    have k3 := b2.cell 3 (by simp)
    have hs1 := d1.size
    go_wp2
    refine bodyPost_ret (v := .tuple #[.agg #[.slice a0 (atkT x p).rows.length c0, .slice a1 (atkT x p).cols.length c1, .slice a2 (atkT x p).lo.length c2, .slice a3 (atkT x p).hi.length c3], .bool true]) (by simp [results, Try.results46, go_sem, k0, k1, k2, k3]) rfl ⟨_, rfl, ?_, (v1.trans u2).put4 (Nat.le_refl _) _ _ _ _⟩
    have hs := put4_size w2 w.heap.size (.slice a0 (atkT x p).rows.length c0) (.slice a1 (atkT x p).cols.length c1) (.slice a2 (atkT x p).lo.length c2) (.slice a3 (atkT x p).hi.length c3)
    have hlt : w.heap.size < w1.heap.size := by first | (simp; done) | (simp at hs1; omega)
    exact (O2.out.away (Upd.put4 (Upd.refl w2) rfl _ _ _ _) (fun b hb => .inl (by subst hb; exact hlt))).mono (Nat.le_of_lt hlt) (Nat.le_of_eq hs.symm)

set_option maxHeartbeats 1600000 in
theorem implAtk_c (v1 : Value) (x : List (List Int)) (v2 : Value) (p : List (List Int)) (w : World) (h1 : Grid w v1 x) (h2 : Grid w v2 p) :
    Calls Try.prog 47 #[v1, v2] w fun e w' => ∃ v', e = .returned (.tuple #[v', .bool (pubB x p)]) ∧ TrO w.heap.size w'.heap.size w' v' (atkV x p) ∧ Ext w w' := by
  have H1 := Lib.hid h1; clear h1
  have H2 := Lib.hid h2; clear h2
  have u0 := (Ext.refl w).alloc (.cells #[.slice none 0 0, .slice none 0 0, .slice none 0 0, .slice none 0 0] 28)
  have b0 := Box.new w 28 #[.slice none 0 0, .slice none 0 0, .slice none 0 0, .slice none 0 0] rfl
  cases hq : pubB x p
  · have hV : atkV x p = ⟨[], [], [], []⟩ := by simp [atkV, hq]
    rw [hV]; clear hV
    have HQ := Lib.hid hq; clear hq
    go_enter Try.func47, Try.ntmps47
    go_wp2_with fail
    refine (areSuppressed_b false _ _ x p _ HQ.out (H1.out.ext u0) (H2.out.ext u0)).mono ?_
    rintro e w' ⟨rfl, rfl⟩
    have d1 := Ext.refl (w.alloc (.cells #[.slice none 0 0, .slice none 0 0, .slice none 0 0, .slice none 0 0] 28))
    have b1 := b0.ext d1
    have v1 := u0.trans d1
    have f0 := b1.free 0
    have f1 := b1.free 1
    have f2 := b1.free 2
    have f3 := b1.free 3
    have k0 := b1.cell 0 (by simp)
    have k1 := b1.cell 1 (by simp)
    have k2 := b1.cell 2 (by simp)
    have k3 := b1.cell 3 (by simp)
    go_wp2
    refine bodyPost_ret (v := .tuple #[.agg #[.slice none 0 0, .slice none 0 0, .slice none 0 0, .slice none 0 0], .bool false]) (by simp [results, Try.results47, go_sem, k0, k1, k2, k3]) rfl ⟨_, rfl, ⟨_, _, _, _, [], [], rfl, Own.nil, Own.nil, OwnG.nil, OwnG.nil, fun b h _ => not_IB_nil h, fun b h _ => not_IB_nil h, fun b h _ => not_IB_nil h, fun b h _ => not_IB_nil h, fun b h _ => not_IB_nil h, fun b h _ => not_GB_nil h⟩, ?_⟩
    first | exact v1 | exact v1.put4 (Nat.le_refl _) _ _ _ _
  · have hV : atkV x p = atkT x p := by simp [atkV, hq]
    rw [hV]; clear hV
    have HQ := Lib.hid hq; clear hq
    go_enter Try.func47, Try.ntmps47
    go_wp2_with fail
    refine (areSuppressed_b true _ _ x p _ HQ.out (H1.out.ext u0) (H2.out.ext u0)).mono ?_
    rintro e w' ⟨rfl, rfl⟩
    have d1 := Ext.refl (w.alloc (.cells #[.slice none 0 0, .slice none 0 0, .slice none 0 0, .slice none 0 0] 28))
    have b1 := b0.ext d1
    have v1 := u0.trans d1
    go_wp2_with fail
    refine (attackNetwork_c _ x _ p _ (H1.out.ext v1) (H2.out.ext v1) HQ.out).mono ?_
    rintro e w2 ⟨v2, rfl, o2, u2⟩
    have O2 := Lib.hid o2
    obtain ⟨a0, c0, a1, c1, a2, c2, a3, c3, rfl, _⟩ := o2.read.form
    clear o2
    have b2 := b1.ext u2
    have f0 := b2.free 0
    have f1 := b2.free 1
    have f2 := b2.free 2
    have f3 := b2.free 3
    have k0 := b2.cell 0 (by simp)
    have k1 := b2.cell 1 (by simp)
    have k2 := b2.cell 2 (by simp)
    have k3 := b2.cell 3 (by simp)
    have hs1 := d1.size
    go_wp2
    refine bodyPost_ret (v := .tuple #[.agg #[.slice a0 (atkT x p).rows.length c0, .slice a1 (atkT x p).cols.length c1, .slice a2 (atkT x p).lo.length c2, .slice a3 (atkT x p).hi.length c3], .bool true]) (by simp [results, Try.results47, go_sem, k0, k1, k2, k3]) rfl ⟨_, rfl, ?_, (v1.trans u2).put4 (Nat.le_refl _) _ _ _ _⟩
    have hs := put4_size w2 w.heap.size (.slice a0 (atkT x p).rows.length c0) (.slice a1 (atkT x p).cols.length c1) (.slice a2 (atkT x p).lo.length c2) (.slice a3 (atkT x p).hi.length c3)
    have hlt : w.heap.size < (w.alloc (.cells #[.slice none 0 0, .slice none 0 0, .slice none 0 0, .slice none 0 0] 28)).heap.size := by first | (simp; done) | (simp at hs1; omega)
    exact (O2.out.away (Upd.put4 (Upd.refl w2) rfl _ _ _ _) (fun b hb => .inl (by subst hb; exact hlt))).mono (Nat.le_of_lt hlt) (Nat.le_of_eq hs.symm)

end Go.Proofs.Ytmffhipfodlomaa
