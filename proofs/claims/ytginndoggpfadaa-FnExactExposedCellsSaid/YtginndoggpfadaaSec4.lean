/- Bounds' helpers, qBounds and ExposedCells. -/
import Derived.Test.YtginndoggpfadaaSep
import Derived.Test.YtginndoggpfadaaSec
import Derived.Deep.CutRange
import Derived.Test.YtginndoggpfadaaSec2
namespace Go.Proofs.Ytginndoggpfadaa
open Go.RowKit

structure Bd where
  lo : List (List Int)
  hi : List (List Int)
/-- the value v reads as T -/
def BdR (w : World) (v : Value) (T : Bd) : Prop := ∃ v0 v1, v = .agg #[v0, v1] ∧ Grid w v0 T.lo ∧ Grid w v1 T.hi
def BdWf (T : Bd) : Prop := WfG T.lo ∧ WfG T.hi
def BdSmall (T : Bd) : Prop := Small T.lo ∧ Small T.hi
theorem BdR.ext {w w' : World} {v : Value} {T : Bd} (h : BdR w v T) (u : Ext w w') : BdR w' v T := by
  obtain ⟨v0, v1, rfl, h0, h1⟩ := h
  exact ⟨_, _, rfl, h0.ext u, h1.ext u⟩
theorem BdR.form {w : World} {v : Value} {T : Bd} (h : BdR w v T) : ∃ a0 c0 a1 c1, v = .agg #[.slice a0 T.lo.length c0, .slice a1 T.hi.length c1] ∧ T.lo.length ≤ 9223372036854775807 ∧ T.hi.length ≤ 9223372036854775807 := by
  obtain ⟨v0, v1, rfl, h0, h1⟩ := h
  obtain ⟨a0, c0, rfl, p0, q0, _⟩ := h0
  obtain ⟨a1, c1, rfl, p1, q1, _⟩ := h1
  exact ⟨a0, c0, a1, c1, rfl, by omega, by omega⟩
theorem BdR.f0 {w : World} {T : Bd} {v0 v1 : Value} (h : BdR w (.agg #[v0, v1]) T) : Grid w v0 T.lo := by
  obtain ⟨x0, x1, e, h0, h1⟩ := h
  simp only [Value.agg.injEq, Array.mk.injEq, List.cons.injEq, and_true] at e
  obtain ⟨rfl, rfl⟩ := e
  exact h0
theorem BdR.f1 {w : World} {T : Bd} {v0 v1 : Value} (h : BdR w (.agg #[v0, v1]) T) : Grid w v1 T.hi := by
  obtain ⟨x0, x1, e, h0, h1⟩ := h
  simp only [Value.agg.injEq, Array.mk.injEq, List.cons.injEq, and_true] at e
  obtain ⟨rfl, rfl⟩ := e
  exact h1
/-- the value v reads as T, each field in blocks of its own, which are apart from the other fields' -/
def BdO (lo hi : Nat) (w : World) (v : Value) (T : Bd) : Prop := ∃ (v0 v1 : Value) (r0 r1 : List Value), v = .agg #[v0, v1] ∧ OwnG lo hi w v0 r0 T.lo ∧ OwnG lo hi w v1 r1 T.hi ∧ Apart (GB v0 r0 T.lo) (GB v1 r1 T.hi)
/-- the same, the fields in ranges that follow one another -/
def BdL (lo hi : Nat) (w : World) (v : Value) (T : Bd) : Prop := ∃ (v0 v1 : Value) (r0 r1 : List Value) (m0 m1 m2 : Nat), v = .agg #[v0, v1] ∧ lo ≤ m0 ∧ m0 ≤ m1 ∧ m1 ≤ m2 ∧ m2 ≤ hi ∧ OwnG m0 m1 w v0 r0 T.lo ∧ OwnG m1 m2 w v1 r1 T.hi
/-- the value v reads as T, each field in blocks numbered from lo on and below hi -/
def BdN (lo hi : Nat) (w : World) (v : Value) (T : Bd) : Prop := ∃ (v0 v1 : Value) (r0 r1 : List Value), v = .agg #[v0, v1] ∧ OwnG lo hi w v0 r0 T.lo ∧ OwnG lo hi w v1 r1 T.hi
theorem BdL.o {lo hi : Nat} {w : World} {v : Value} {T : Bd} (h : BdL lo hi w v T) : BdO lo hi w v T := by
  obtain ⟨v0, v1, r0, r1, m0, m1, m2, rfl, l0, l1, l2, l9, o0, o1⟩ := h
  exact ⟨v0, v1, r0, r1, rfl, o0.mono (by omega) (by omega), o1.mono (by omega) (by omega), fun b h1 h2 => by have := o0.inside h1; have := o1.inside h2; omega⟩
theorem BdO.read {lo hi : Nat} {w : World} {v : Value} {T : Bd} (h : BdO lo hi w v T) : BdR w v T := by
  obtain ⟨v0, v1, r0, r1, rfl, o0, o1, d0_1⟩ := h
  exact ⟨v0, v1, rfl, o0.grid, o1.grid⟩
theorem BdO.ext {lo hi : Nat} {w w' : World} {v : Value} {T : Bd} (h : BdO lo hi w v T) (u : Ext w w') : BdO lo hi w' v T := by
  obtain ⟨v0, v1, r0, r1, rfl, o0, o1, d0_1⟩ := h
  exact ⟨v0, v1, r0, r1, rfl, o0.ext u, o1.ext u, d0_1⟩
theorem BdO.away {S : Nat → Prop} {lo hi : Nat} {w w' : World} {v : Value} {T : Bd} (h : BdO lo hi w v T) (u : Upd S w w') (hs : ∀ b, S b → b < lo ∨ hi ≤ b) : BdO lo hi w' v T := by
  obtain ⟨v0, v1, r0, r1, rfl, o0, o1, d0_1⟩ := h
  exact ⟨v0, v1, r0, r1, rfl, o0.away u hs, o1.away u hs, d0_1⟩
theorem BdO.mono {lo hi lo' hi' : Nat} {w : World} {v : Value} {T : Bd} (h : BdO lo hi w v T) (h1 : lo' ≤ lo) (h2 : hi ≤ hi') : BdO lo' hi' w v T := by
  obtain ⟨v0, v1, r0, r1, rfl, o0, o1, d0_1⟩ := h
  exact ⟨v0, v1, r0, r1, rfl, o0.mono h1 h2, o1.mono h1 h2, d0_1⟩
theorem BdN.read {lo hi : Nat} {w : World} {v : Value} {T : Bd} (h : BdN lo hi w v T) : BdR w v T := by
  obtain ⟨v0, v1, r0, r1, rfl, o0, o1⟩ := h
  exact ⟨v0, v1, rfl, o0.grid, o1.grid⟩
theorem BdN.ext {lo hi : Nat} {w w' : World} {v : Value} {T : Bd} (h : BdN lo hi w v T) (u : Ext w w') : BdN lo hi w' v T := by
  obtain ⟨v0, v1, r0, r1, rfl, o0, o1⟩ := h
  exact ⟨v0, v1, r0, r1, rfl, o0.ext u, o1.ext u⟩
theorem BdN.away {S : Nat → Prop} {lo hi : Nat} {w w' : World} {v : Value} {T : Bd} (h : BdN lo hi w v T) (u : Upd S w w') (hs : ∀ b, S b → b < lo ∨ hi ≤ b) : BdN lo hi w' v T := by
  obtain ⟨v0, v1, r0, r1, rfl, o0, o1⟩ := h
  exact ⟨v0, v1, r0, r1, rfl, o0.away u hs, o1.away u hs⟩
theorem BdN.mono {lo hi lo' hi' : Nat} {w : World} {v : Value} {T : Bd} (h : BdN lo hi w v T) (h1 : lo' ≤ lo) (h2 : hi ≤ hi') : BdN lo' hi' w v T := by
  obtain ⟨v0, v1, r0, r1, rfl, o0, o1⟩ := h
  exact ⟨v0, v1, r0, r1, rfl, o0.mono h1 h2, o1.mono h1 h2⟩

set_option maxHeartbeats 1600000 in
theorem eqBounds_t (v1 v2 : Value) (T : Bd) (w : World) (h1 : BdR w v1 T) (h2 : BdR w v2 T) :
    Calls Try.prog 24 #[v1, v2] w fun e w' => e = .returned (.bool true) ∧ Ext w w' := by
  have H1 := Lib.hid h1
  have H2 := Lib.hid h2
  obtain ⟨a0, c0, a1, c1, rfl, _, _⟩ := h1.form
  obtain ⟨d0, e0, d1, e1, rfl, _, _⟩ := h2.form
  clear h1 h2
  have v0 := ((Ext.refl w).alloc (.cells #[.slice a0 T.lo.length c0, .slice a1 T.hi.length c1] 37)).alloc (.cells #[.slice d0 T.lo.length e0, .slice d1 T.hi.length e1] 37)
  have b1_0 := (Box.new w 37 #[.slice a0 T.lo.length c0, .slice a1 T.hi.length c1] rfl).alloc (.cells #[.slice d0 T.lo.length e0, .slice d1 T.hi.length e1] 37)
  have b2_0 := Box.new (w.alloc (.cells #[.slice a0 T.lo.length c0, .slice a1 T.hi.length c1] 37)) 37 #[.slice d0 T.lo.length e0, .slice d1 T.hi.length e1] (b := w.heap.size + 1) (by simp)
  go_enter Try.func24, Try.ntmps24
  have k1_0_0 := b1_0.cell 0 (by simp)
  have k2_0_0 := b2_0.cell 0 (by simp)
  have k1_0_1 := b1_0.cell 1 (by simp)
  have k2_0_1 := b2_0.cell 1 (by simp)
  go_wp2_with fail
  refine (eqIntSS_b true _ _ T.lo T.lo _ (by simp) (H1.out.f0.ext v0) (H2.out.f0.ext v0)).mono ?_
  rintro e w1 ⟨rfl, d1_⟩
  have u1 := Drew.ext d1_
  have v1 := v0.trans u1
  have b1_1 := b1_0.ext u1
  have b2_1 := b2_0.ext u1
  have k1_1_0 := b1_1.cell 0 (by simp)
  have k2_1_0 := b2_1.cell 0 (by simp)
  have k1_1_1 := b1_1.cell 1 (by simp)
  have k2_1_1 := b2_1.cell 1 (by simp)
  go_wp2_with fail
  refine (eqIntSS_b true _ _ T.hi T.hi _ (by simp) (H1.out.f1.ext v1) (H2.out.f1.ext v1)).mono ?_
  rintro e w2 ⟨rfl, d2_⟩
  have u2 := Drew.ext d2_
  have v2 := v1.trans u2
  have b1_2 := b1_1.ext u2
  have b2_2 := b2_1.ext u2
  go_wp2
  go_ret
  exact ⟨rfl, v2⟩
def BdSize (T : Bd) : Int := (psum T.lo T.lo.length : Int) + (psum T.hi T.hi.length : Int)
theorem BdSmall.size {T : Bd} (h : BdSmall T) : 0 ≤ BdSize T ∧ BdSize T ≤ 2097152 := by
  obtain ⟨h0, h1⟩ := h
  have := h0.psum T.lo.length (Nat.le_refl _)
  have := h1.psum T.hi.length (Nat.le_refl _)
  unfold BdSize; omega
/-- T', of the shape of T, is marked from k0 on -/
def BdMarked (k0 : Int) (T T' : Bd) : Prop := MarkedG (k0) T.lo T'.lo ∧ MarkedG (k0 + (psum T.lo T.lo.length : Int)) T.hi T'.hi
set_option maxHeartbeats 1600000 in
theorem markBounds_c (lo hi : Nat) (v : Value) (T : Bd) (k0 : Int) (w : World) (h : BdO lo hi w v T) (s : BdSmall T) (hk0 : 0 ≤ k0 ∧ k0 ≤ 1099500000000) :
    Calls Try.prog 25 #[v, .int .i64 k0] w fun e w' => e = .returned (.int .i64 (k0 + BdSize T)) ∧ (∃ T', BdO lo hi w' v T' ∧ BdMarked k0 T T') ∧ Upd (fun b => lo ≤ b ∧ b < hi) w w' := by
  have HS := Lib.hid s; clear s
  obtain ⟨a0, c0, a1, c1, rfl, _⟩ := h.read.form
  obtain ⟨v0, v1, r0, r1, hv, o0, o1, d0_1⟩ := h
  simp only [Value.agg.injEq, Array.mk.injEq, List.cons.injEq, and_true] at hv
  obtain ⟨rfl, rfl⟩ := hv
  have u0 := (Ext.refl w).alloc (.cells #[.slice a0 T.lo.length c0, .slice a1 T.hi.length c1] 37)
  have b0 := Box.new w 37 #[.slice a0 T.lo.length c0, .slice a1 T.hi.length c1] rfl
  have IN0 := Lib.hid (show ∀ b, GB (.slice a0 T.lo.length c0) r0 T.lo b → lo ≤ b ∧ b < hi ∧ b < w.heap.size from fun b hb => o0.inside hb)
  have IN1 := Lib.hid (show ∀ b, GB (.slice a1 T.hi.length c1) r1 T.hi b → lo ≤ b ∧ b < hi ∧ b < w.heap.size from fun b hb => o1.inside hb)
  have D0_1 := Lib.hid d0_1; clear d0_1
  have O0_0 := Lib.hid (o0.ext u0); clear o0
  have O1_0 := Lib.hid (o1.ext u0); clear o1
  obtain ⟨t0, ht0⟩ : ∃ t, k0 + (psum T.lo T.lo.length : Int) = t := ⟨_, rfl⟩
  have tb0 : 0 ≤ t0 ∧ t0 ≤ 1099501048576 := by have := HS.out.1.psum _ (Nat.le_refl _); omega
  have HT0 := Lib.hid ht0; clear ht0
  obtain ⟨t1, ht1⟩ : ∃ t, t0 + (psum T.hi T.hi.length : Int) = t := ⟨_, rfl⟩
  have tb1 : 0 ≤ t1 ∧ t1 ≤ 1099502097152 := by have := HS.out.2.psum _ (Nat.le_refl _); omega
  have HT1 := Lib.hid ht1; clear ht1
  have k0_0 := b0.cell 0 (by simp)
  have k0_1 := b0.cell 1 (by simp)
  go_enter Try.func25, Try.ntmps25
  go_wp2_with fail
  refine (markIntSS_c _ _ _ _ T.lo k0 _ O0_0.out HS.out.1.row HS.out.1.psum (by omega)).mono ?_
  rw [HT0.out]
  rintro e w1 ⟨rfl, ⟨ys0, om0, mk0⟩, uu1⟩
  have MK0 := Lib.hid mk0; clear mk0
  have U1 : Hid (Upd (fun b => rowBlks r0 T.lo b ∧ b ≠ w.heap.size) _ w1) := Lib.hid (uu1.mono (fun b _ hb => ⟨hb, by have := IN0.out b (.inr hb); omega⟩))
  have OM0_1 := Lib.hid om0; clear om0 uu1
  have b1 := b0.upd U1.out (fun hb => hb.2 rfl)
  have k1_0 := b1.cell 0 (by simp)
  have k1_1 := b1.cell 1 (by simp)
  have O1_1 := Lib.hid (O1_0.out.keepB U1.out (fun b hb hs => D0_1.out b (.inr hs.1) hb))
  go_wp2_with fail
  refine (markIntSS_c _ _ _ _ T.hi t0 _ O1_1.out HS.out.2.row HS.out.2.psum (by omega)).mono ?_
  rw [HT1.out]
  rintro e w2 ⟨rfl, ⟨ys1, om1, mk1⟩, uu2⟩
  have MK1 := Lib.hid mk1; clear mk1
  have U2 : Hid (Upd (fun b => rowBlks r1 T.hi b ∧ b ≠ w.heap.size) _ w2) := Lib.hid (uu2.mono (fun b _ hb => ⟨hb, by have := IN1.out b (.inr hb); omega⟩))
  have OM1_2 := Lib.hid om1; clear om1 uu2
  have b2 := b1.upd U2.out (fun hb => hb.2 rfl)
  have k2_0 := b2.cell 0 (by simp)
  have k2_1 := b2.cell 1 (by simp)
  have OM0_2 := Lib.hid (OM0_1.out.keepB U2.out (fun b hb hs => D0_1.out b (GB.of_marked MK0.out hb) (.inr hs.1)))
  go_wp2
  go_ret
  refine ⟨ret_int (by unfold BdSize; have := HT0.out; have := HT1.out;  omega), ⟨⟨ys0, ys1⟩, ⟨.slice a0 T.lo.length c0, .slice a1 T.hi.length c1, r0, r1, rfl, by first | exact OM0_2.out | (simpa using OM0_2.out), by first | exact OM1_2.out | (simpa using OM1_2.out), fun b h1 h2 => D0_1.out b (GB.of_marked MK0.out h1) (GB.of_marked MK1.out h2)⟩, ?_⟩, ?_⟩
  · refine ⟨MK0.out, by rw [HT0.out]; exact MK1.out⟩
  · exact u0.then_upd ((U1.out.mono (fun b _ hb => by have := IN0.out b (.inr hb.1); omega)).trans (U2.out.mono (fun b _ hb => by have := IN1.out b (.inr hb.1); omega)))
set_option maxHeartbeats 1600000 in
theorem heldBounds_c (v : Value) (T T' : Bd) (k0 : Int) (w : World) (h : BdR w v T') (hm : BdMarked k0 T T') (s : BdSmall T) (hk0 : 0 ≤ k0 ∧ k0 ≤ 1099500000000) :
    Calls Try.prog 26 #[v, .int .i64 k0] w fun e w' => e = .returned (.int .i64 (k0 + BdSize T)) ∧ Ext w w' := by
  have HS := Lib.hid s; clear s
  have H := Lib.hid h
  have HM := Lib.hid hm; clear hm
  obtain ⟨a0, c0, a1, c1, rfl, _⟩ := h.form
  clear h
  have u0 := (Ext.refl w).alloc (.cells #[.slice a0 T'.lo.length c0, .slice a1 T'.hi.length c1] 37)
  have b0 := Box.new w 37 #[.slice a0 T'.lo.length c0, .slice a1 T'.hi.length c1] rfl
  obtain ⟨t0, ht0⟩ : ∃ t, k0 + (psum T.lo T.lo.length : Int) = t := ⟨_, rfl⟩
  have tb0 : 0 ≤ t0 ∧ t0 ≤ 1099501048576 := by have := HS.out.1.psum _ (Nat.le_refl _); omega
  have tn0 : ¬ (t0 < 0) := by omega
  have HT0 := Lib.hid ht0; clear ht0
  obtain ⟨t1, ht1⟩ : ∃ t, t0 + (psum T.hi T.hi.length : Int) = t := ⟨_, rfl⟩
  have tb1 : 0 ≤ t1 ∧ t1 ≤ 1099502097152 := by have := HS.out.2.psum _ (Nat.le_refl _); omega
  have tn1 : ¬ (t1 < 0) := by omega
  have HT1 := Lib.hid ht1; clear ht1
  have k0_0 := b0.cell 0 (by simp)
  have k0_1 := b0.cell 1 (by simp)
  go_enter Try.func26, Try.ntmps26
  go_wp2_with fail
  refine (heldIntSS_c _ T.lo T'.lo k0 _ (H.out.f0.ext u0) (by have := HM.out.1; exact this) HS.out.1.row HS.out.1.psum (by omega)).mono ?_
  rw [HT0.out]
  rintro e w' ⟨rfl, rfl⟩
  go_wp2_with fail
  refine (heldIntSS_c _ T.hi T'.hi t0 _ (H.out.f1.ext u0) (by have := HM.out.2; rw [HT0.out] at this; exact this) HS.out.2.row HS.out.2.psum (by omega)).mono ?_
  rw [HT1.out]
  rintro e w' ⟨rfl, rfl⟩
  go_wp2
  go_ret
  exact ⟨ret_int (by unfold BdSize; have := HT0.out; have := HT1.out;  omega), u0⟩
end Go.Proofs.Ytginndoggpfadaa
namespace Go.Proofs.Ytginndoggpfadaa
open Go.RowKit
open Fm

noncomputable def bLoF (x p : List (List Int)) (i j : Nat) (v : Int) : Int := if elOf p i j = 1 then qLo x p i j else v
noncomputable def bHiF (x p : List (List Int)) (i j : Nat) (v : Int) : Int := if elOf p i j = 1 then qHi x p i j else v
noncomputable def bndD (x p : List (List Int)) : Bd := ⟨mapG (bLoF x p) x, mapG (bHiF x p) x⟩

/-- bounds under way: kl rows of lo, kh rows of hi; HL, HH: bounds of the rows' blocks -/
structure BndA (w : World) (B : Nat) (L H : List (List Int)) (kl kh HL HH : Nat) (wr : World) (lv hv : Value) (rl rh : List Value) : Prop where
  box : Box wr B 37 #[lv, hv]
  lo : GRow (B + 1) HL wr lv rl (L.take kl)
  hi : GRow (B + 1) HH wr hv rh (H.take kh)
  d3 : ∀ b, lv.ownBlock = some b → hv.ownBlock ≠ some b
  ext : Ext w wr
  sz : B + 1 ≤ wr.heap.size
  szw : w.heap.size ≤ B
  bl : HL ≤ wr.heap.size
  bh : HH ≤ wr.heap.size
namespace BndA
variable {w wo wb w3 : World} {B kl kh HL HH g cp : Nat} {L H : List (List Int)} {lv hv : Value} {rl rh : List Value}
theorem ext' (h : BndA w B L H kl kh HL HH wo lv hv rl rh) (E : Ext wo wb) : BndA w B L H kl kh HL HH wb lv hv rl rh :=
  ⟨h.box.ext E, h.lo.ext E, h.hi.ext E, h.d3, h.ext.trans E, Nat.le_trans h.sz E.size, h.szw, Nat.le_trans h.bl E.size, Nat.le_trans h.bh E.size⟩
theorem addLo {ov : Value} {M : Nat} (h : BndA w B L H kl kh HL HH wb lv hv rl rh) (hk : kl < L.length) (hx : Own M wb.heap.size wb ov (rowAt L kl)) (hM : HL ≤ M) (hB : B + 1 ≤ HL)
    (hg : wb.grownBy w3 lv.ownBlock) (hat : lv.ownBlock = some g ∨ g = wb.heap.size)
    (hown : w3.ownsRow (B + 1) 52 1 (.slice (some ⟨g, 0, none⟩) (kl + 1) cp) (kl + 1) (rl ++ [ov])) :
    BndA w B L H (kl + 1) kh w3.heap.size HH (w3.setCell ⟨B, 0, none⟩ (.slice (some ⟨g, 0, none⟩) (kl + 1) cp)) (.slice (some ⟨g, 0, none⟩) (kl + 1) cp) hv (rl ++ [ov]) rh := by
  have hlen : (L.take kl).length = kl := by simp; omega
  have hs := hg.size
  have hsz := h.sz
  have hbl := h.bl
  have hbh := h.bh
  have hp := h.lo.push (hi' := w3.heap.size) (x := ov) (r := rowAt L kl) hB ((hx.mono hM (Nat.le_refl _)).mono (Nat.le_refl _) hs) (by omega) hg (by rw [hlen]; exact hown)
  have hb := (h.box.upd (Upd.of_grown hg) (fun e => by have := (h.lo.blk e).1; omega)).set 0 (.slice (some ⟨g, 0, none⟩) (kl + 1) cp)
  refine ⟨hb, ?_, (h.hi.keepSpine h.lo.own hg h.d3).put (by simp) _, fun b e => ?_, (h.lo.grew h.ext (by have := h.szw; omega) hg).setCell _ h.szw, by simp [World.setCell]; omega, h.szw, by simp [World.setCell], by simp [World.setCell]; omega⟩
  · rw [take_succ_row hk]; exact hp.put (by simp) _
  · simp only [Value.ownBlock, Option.some.injEq] at e
    subst e
    rcases hat with e | e
    · exact h.d3 _ e
    · intro e2; have := (h.hi.blk e2).2; omega
theorem addHi {ov : Value} {M : Nat} (h : BndA w B L H kl kh HL HH wb lv hv rl rh) (hk : kh < H.length) (hx : Own M wb.heap.size wb ov (rowAt H kh)) (hM : HH ≤ M) (hB : B + 1 ≤ HH)
    (hg : wb.grownBy w3 hv.ownBlock) (hat : hv.ownBlock = some g ∨ g = wb.heap.size)
    (hown : w3.ownsRow (B + 1) 52 1 (.slice (some ⟨g, 0, none⟩) (kh + 1) cp) (kh + 1) (rh ++ [ov])) :
    BndA w B L H kl (kh + 1) HL w3.heap.size (w3.setCell ⟨B, 1, none⟩ (.slice (some ⟨g, 0, none⟩) (kh + 1) cp)) lv (.slice (some ⟨g, 0, none⟩) (kh + 1) cp) rl (rh ++ [ov]) := by
  have hlen : (H.take kh).length = kh := by simp; omega
  have hs := hg.size
  have hsz := h.sz
  have hbl := h.bl
  have hbh := h.bh
  have hp := h.hi.push (hi' := w3.heap.size) (x := ov) (r := rowAt H kh) hB ((hx.mono hM (Nat.le_refl _)).mono (Nat.le_refl _) hs) (by omega) hg (by rw [hlen]; exact hown)
  have hb := (h.box.upd (Upd.of_grown hg) (fun e => by have := (h.hi.blk e).1; omega)).set 1 (.slice (some ⟨g, 0, none⟩) (kh + 1) cp)
  refine ⟨hb, (h.lo.keepSpine h.hi.own hg (fun b e e2 => h.d3 b e2 e)).put (by simp) _, ?_, fun b e => ?_, (h.hi.grew h.ext (by have := h.szw; omega) hg).setCell _ h.szw, by simp [World.setCell]; omega, h.szw, by simp [World.setCell]; omega, by simp [World.setCell]⟩
  · rw [take_succ_row hk]; exact hp.put (by simp) _
  · intro e2
    simp only [Value.ownBlock, Option.some.injEq] at e2
    subst e2
    rcases hat with e3 | e3
    · exact h.d3 _ e e3
    · have := (h.lo.blk e).2; omega
end BndA
abbrev put2 (w : World) (B : Nat) (x0 x1 : Value) : World := (w.setCell ⟨B, 0, none⟩ x0).setCell ⟨B, 1, none⟩ x1
theorem OwnG.put2 {w : World} {lo hi B : Nat} {v : Value} {rvs : List Value} {xss : List (List Int)} (h : OwnG lo hi w v rvs xss) (hB : B < lo) (x0 x1 : Value) : OwnG lo hi (put2 w B x0 x1) v rvs xss :=
  (h.put_away _ _ (.inl hB)).put_away _ _ (.inl hB)
theorem Ext.put2 {u w : World} {B : Nat} (h : Ext u w) (hB : u.heap.size ≤ B) (x0 x1 : Value) : Ext u (put2 w B x0 x1) := (h.setCell _ hB).setCell _ hB
theorem put2_size (w : World) (B : Nat) (x0 x1 : Value) : (put2 w B x0 x1).heap.size = w.heap.size := by simp [put2, World.setCell]

set_option maxRecDepth 100000 in
set_option maxHeartbeats 6400000 in
theorem qBounds_c (v1 : Value) (x : List (List Int)) (v2 : Value) (p : List (List Int)) (w : World) (h1 : Grid w v1 x) (h2 : Grid w v2 p) (hq : pubB x p = true) :
    Calls Try.prog 47 #[v1, v2] w fun e w' => ∃ v', e = .returned v' ∧ BdN w.heap.size w'.heap.size w' v' (bndD x p) ∧ Ext w w' := by
  have H1 := Lib.hid h1
  have H2 := Lib.hid h2
  obtain ⟨ax, cx, rfl, hx1, hx2, hx3⟩ := h1
  have GX := Lib.hid hx3; clear hx3
  obtain ⟨ap, cap, rfl, hp1, hp2, hp3⟩ := h2
  have GP := Lib.hid hp3; clear hp3
  have hd := atk_dims hq
  have HRX := Lib.hid (pub_rc hq)
  have HRP := Lib.hid (pat_rc hq)
  have HP := Lib.hid hq; clear hq
  obtain ⟨n, hn⟩ : ∃ n, x.length = n := ⟨_, rfl⟩
  obtain ⟨m, hm⟩ : ∃ m, (rowAt x 0).length = m := ⟨_, rfl⟩
  rw [hn] at HRX HRP hd hx1 H1
  rw [hm] at HRX HRP hd
  have hpl := HRP.out.len
  rw [hpl] at hp1 H2
  rw [hn, hpl]
  obtain ⟨d1, d2, d3, d4⟩ := hd
  have HN := Lib.hid hn; clear hn
  have HM := Lib.hid hm; clear hm
  have HPL := Lib.hid hpl; clear hpl
  obtain ⟨L, hL⟩ : ∃ L, mapG (bLoF x p) x = L := ⟨_, rfl⟩
  obtain ⟨H, hH⟩ : ∃ H, mapG (bHiF x p) x = H := ⟨_, rfl⟩
  have HLL : Hid (L.length = n ∧ H.length = n) := Lib.hid ⟨by rw [← hL, mapG_length]; exact HN.out, by rw [← hH, mapG_length]; exact HN.out⟩
  have HLR : Hid (∀ k, k < n → rowAt L k = rowF (bLoF x p) x k ∧ rowAt H k = rowF (bHiF x p) x k) := Lib.hid (fun k hk => ⟨by rw [← hL]; exact rowAt_mapG (by rw [HN.out]; exact hk), by rw [← hH]; exact rowAt_mapG (by rw [HN.out]; exact hk)⟩)
  have HD : Hid (bndD x p = ⟨L, H⟩) := Lib.hid (by unfold bndD; rw [hL, hH])
  rw [HD.out]
  clear hL hH
  have u0 := (Ext.refl w).alloc (.cells #[.slice none 0 0, .slice none 0 0] 37)
  have b0 := Box.new w 37 #[.slice none 0 0, .slice none 0 0] rfl
  have z0 : (w.alloc (.cells #[.slice none 0 0, .slice none 0 0] 37)).heap.size = w.heap.size + 1 := by simp
  go_enter Try.func47, Try.ntmps47
  go_wp2_with fail
  refine (qNetwork_c _ x _ p _ (H1.out.ext u0) (H2.out.ext u0) HP.out).mono ?_
  rintro e w2 ⟨v2', rfl, ot, u2⟩
  have hr := ot.read
  clear ot
  obtain ⟨a0, c0, a1, c1, a2, c2, a3, c3, rfl⟩ := atk_form HP.out hr
  rw [HN.out, HM.out] at hr ⊢
  have HR := Lib.hid hr; clear hr
  have uA := (Ext.refl w2).alloc (.cells #[.slice a0 n c0, .slice a1 m c1, .slice a2 n c2, .slice a3 n c3] 58)
  have bA := Box.new w2 58 #[.slice a0 n c0, .slice a1 m c1, .slice a2 n c2, .slice a3 n c3] rfl
  obtain ⟨ws, hws⟩ : ∃ ws, w2.alloc (.cells #[.slice a0 n c0, .slice a1 m c1, .slice a2 n c2, .slice a3 n c3] 58) = ws := ⟨_, rfl⟩
  have hzs : ws.heap.size = w2.heap.size + 1 := by rw [← hws]; simp
  rw [hws] at uA bA
  have HWS := Lib.hid hws; clear hws
  have HRS := Lib.hid (HR.out.ext uA)
  have uX := (u0.trans u2).trans uA
  have bR := (b0.ext u2).ext uA
  have hz2 : w.heap.size + 1 ≤ w2.heap.size := by have := u2.size; omega
  have b1 := Box.new ws 37 #[.slice none 0 0, .slice none 0 0] (b := w2.heap.size + 1) hzs.symm
  have hst : BndA ws (w2.heap.size + 1) L H 0 0 (w2.heap.size + 1 + 1) (w2.heap.size + 1 + 1) (ws.alloc (.cells #[.slice none 0 0, .slice none 0 0] 37)) (.slice none 0 0) (.slice none 0 0) [] [] :=
    ⟨b1, GRow.nil, GRow.nil, fun b e => by simp [Value.ownBlock] at e, (Ext.refl _).alloc _, by simp; omega, by omega, by simp; omega, by simp; omega⟩
  have HST := Lib.hid hst; clear hst b1 b0 z0
  clear u0 u2 uA
  go_wp2
  rw [HWS.out]
  go_loopw [22] (fun i wr => ∃ (k : Nat) (lv hv : Value) (rl rh : List Value) (HL HH : Nat), k ≤ n ∧ i = .int .i64 k ∧ BndA ws (w2.heap.size + 1) L H k k HL HH wr lv hv rl rh ∧ w2.heap.size + 1 + 1 ≤ HL ∧ w2.heap.size + 1 + 1 ≤ HH) (fun i _ => n - (intOf i).toNat)
  case atStart => exact ⟨0, _, _, _, _, _, _, Nat.zero_le _, rfl, HST.out, Nat.le_refl _, Nat.le_refl _⟩
  case round =>
    obtain ⟨k, lv, hv, rl, rh, HL, HH, hk, rfl, hA, hHL, hHH⟩ := hrel
    obtain ⟨wM, rfl⟩ : ∃ wM : World, wM = wr := ⟨_, rfl⟩
    have HA1 := Lib.hid hA; clear hA
    by_cases hlt : k < n
    · have hxo := uX.trans HA1.out.ext
      obtain ⟨b, o, ar, cr, rfl, hc0, r1, r2, r3⟩ := GX.out.at_ (k := k) (by rw [HN.out]; exact hlt)
      have hc := Ext.cell hxo hc0
      rw [HRX.out.row k hlt] at hc r1
      have R3 := Lib.hid r3; clear r3 hc0
      obtain ⟨bp, op, ap2, cp2, rfl, hcp0, p1, p2, p3⟩ := GP.out.at_ (k := k) (by rw [HPL.out]; exact hlt)
      rw [HRP.out.row k hlt] at hcp0 p1
      have P3 := Lib.hid p3; clear p3
      have hrow := HLR.out k hlt
      have HRW := Lib.hid hrow; clear hrow
      go_wp2
      go_loopw [9, 10, 29] (fun lo hi i wr => ∃ l : Nat, l ≤ m ∧ i = .int .i64 l ∧ Two wM wr lo hi ((rowF (bLoF x p) x k).take l) ((rowF (bHiF x p) x k).take l)) (fun _ _ i _ => m - (intOf i).toNat)
      case atStart => exact ⟨0, Nat.zero_le _, rfl, by simpa using Two.nil wM⟩
      case round =>
        clear hc
        obtain ⟨l, hl, rfl, hT⟩ := hrel
        obtain ⟨wi0, rfl⟩ : ∃ wi0 : World, wi0 = wr := ⟨_, rfl⟩
        have HT := Lib.hid hT; clear hT
        by_cases hl2 : l < m
        · have hl2x : l < (rowAt x k).length := by rw [HRX.out.row k hlt]; exact hl2
          have hl2p : l < (rowAt p k).length := by rw [HRP.out.row k hlt]; exact hl2
          have hxi := hxo.trans HT.out.ext
          obtain ⟨bx, ox, rfl, hcx0⟩ := R3.out l hl2x
          obtain ⟨bq, oq, rfl, hcq0⟩ := P3.out l hl2p
          have hcx := Ext.cell hxi hcx0
          have hcq := Ext.cell hxi hcq0
          have hcp := Ext.cell hxi hcp0
          have q5 : ix (rowAt x k) l = elOf x k l := rfl
          have q6 : ix (rowAt p k) l = elOf p k l := rfl
          have HE5 := Lib.hid q5
          rw [q5] at hcx
          rw [q6] at hcq
          clear hcx0 hcq0 q5 q6
          have htl1 : ((rowF (bLoF x p) x k).take l).length = l := by simp [rowF_length]; omega
          have htl2 : ((rowF (bHiF x p) x k).take l).length = l := by simp [rowF_length]; omega
          have HTL1 := Lib.hid htl1; clear htl1
          have HTL2 := Lib.hid htl2; clear htl2
          have bT := bA.ext (HA1.out.ext.trans HT.out.ext)
          have y0 := bT.cell 0 (by simp)
          have y1 := bT.cell 1 (by simp)
          have y2 := bT.cell 2 (by simp)
          have y3 := bT.cell 3 (by simp)
          have HLX := Lib.hid hl2x; clear hl2x hl2p bT
          have HXI := Lib.hid hxi; clear hxi
          by_cases hone : elOf p k l = 1
          · obtain ⟨VL, hVL⟩ : ∃ V, qLo x p k l = V := ⟨_, rfl⟩
            obtain ⟨VH, hVH⟩ : ∃ V, qHi x p k l = V := ⟨_, rfl⟩
            have HL1 : Hid (bLoF x p k l (ix (rowAt x k) l) = VL) := Lib.hid (by unfold bLoF; rw [if_pos hone, hVL])
            have HH1 : Hid (bHiF x p k l (ix (rowAt x k) l) = VH) := Lib.hid (by unfold bHiF; rw [if_pos hone, hVH])
            have HVL : Hid (lowV (atkT x p) k l = VL) := Lib.hid hVL
            have HVH : Hid (highV (atkT x p) k l = VH) := Lib.hid hVH
            clear hVL hVH
            go_wp2_with fail
            refine (tRange_c true (atkT x p) a0 a1 a2 a3 c0 c1 c2 c3 n m k l _ (atk_feas HP.out) (by rw [atk_rl]; exact HN.out) (by rw [atk_cl]; exact HM.out) (HRS.out.ext (HA1.out.ext.trans HT.out.ext)) (atk_ok HP.out) hlt hl2).mono ?_
            simp only [if_true]
            rw [HVL.out, HVH.out]
            rintro e wi ⟨rfl, ui⟩
            have HT := Lib.hid (HT.out.ext' ui)
            have hsM := HT.out.ext.size
            have hown1 := HT.out.ra
            unfold IRow at hown1
            rw [HTL1.out] at hown1
            have HOWN1 := Lib.hid hown1; clear hown1
            go_wp2_with (at_builtin; go_loud (refine app1 _ rfl _ _ 52 3 rfl (.int .i64 0) 8 Try.underlying52 info_int rfl wM.heap.size _ l _ rfl (HOWN1.out.kept (row := none) ⟨((Ext.refl _).alloc _).os, ((Ext.refl _).alloc _).tape, ((Ext.refl _).alloc _).output, ((Ext.refl _).alloc _).size, fun k hk _ => ((Ext.refl _).alloc _).block hk⟩ (by cases (Value.ownBlock _) <;> simp)) wi.heap.size 1 3 (.int .i64 VL) rfl (Box.new _ _ _ rfl) rfl (by omega) (by omega) (by simp; omega) ?_))
            intro g cp w3 hown3 hgrow hat hlt3
            have T3 := (HT.out.ext' ((Ext.refl wi).alloc (.cells #[.int .i64 VL] 3))).addA (x := VL) HTL1.out hgrow (hat.imp id (fun e => e.trans (by simp))) (by rw [List.map_take]; exact hown3)
            have hs3 := T3.ext.size
            have hown2 := T3.rb
            unfold IRow at hown2
            rw [HTL2.out] at hown2
            have HOWN2 := Lib.hid hown2; clear hown2
            have HT3 := Lib.hid T3; clear T3
            clear hgrow hat hown3
            go_wp2_with (at_builtin; go_loud (refine app1 _ rfl _ _ 52 3 rfl (.int .i64 0) 8 Try.underlying52 info_int rfl wM.heap.size _ l _ rfl (HOWN2.out.kept (row := none) ⟨((Ext.refl _).alloc _).os, ((Ext.refl _).alloc _).tape, ((Ext.refl _).alloc _).output, ((Ext.refl _).alloc _).size, fun k hk _ => ((Ext.refl _).alloc _).block hk⟩ (by cases (Value.ownBlock _) <;> simp)) w3.heap.size 1 3 (.int .i64 VH) rfl (Box.new _ _ _ rfl) rfl (by omega) (by omega) (by simp; omega) ?_))
            intro g6 cp6 w6 hown6 hgrow6 hat6 hlt6
            have T6 := ((HT3.out.swap.ext' ((Ext.refl w3).alloc (.cells #[.int .i64 VH] 3))).addA (x := VH) HTL2.out hgrow6 (hat6.imp id (fun e => e.trans (by simp))) (by rw [List.map_take]; exact hown6)).swap
            have HT6 := Lib.hid T6; clear T6
            clear hgrow6 hat6 hown6
            go_wp2
            go_roundw
            case rel => exact ⟨l + 1, by omega, by go_num, by rw [rowF_take_succ HLX.out, rowF_take_succ HLX.out, HL1.out, HH1.out]; exact HT6.out⟩
            case measure => simp [intOf]; omega
          · have HL1 : Hid (bLoF x p k l (ix (rowAt x k) l) = elOf x k l) := Lib.hid (by unfold bLoF; rw [if_neg hone]; rfl)
            have HH1 : Hid (bHiF x p k l (ix (rowAt x k) l) = elOf x k l) := Lib.hid (by unfold bHiF; rw [if_neg hone]; rfl)
            have hsM := HT.out.ext.size
            have hown1 := HT.out.ra
            unfold IRow at hown1
            rw [HTL1.out] at hown1
            have HOWN1 := Lib.hid hown1; clear hown1
            obtain ⟨wi, rfl⟩ : ∃ wi : World, wi = wi0 := ⟨_, rfl⟩
            go_wp2_with (at_builtin; go_loud (refine app1 _ rfl _ _ 52 3 rfl (.int .i64 0) 8 Try.underlying52 info_int rfl wM.heap.size _ l _ rfl (HOWN1.out.kept (row := none) ⟨((Ext.refl _).alloc _).os, ((Ext.refl _).alloc _).tape, ((Ext.refl _).alloc _).output, ((Ext.refl _).alloc _).size, fun k hk _ => ((Ext.refl _).alloc _).block hk⟩ (by cases (Value.ownBlock _) <;> simp)) wi.heap.size 1 3 (.int .i64 (elOf x k l)) rfl (Box.new _ _ _ rfl) rfl (by omega) (by omega) (by simp; omega) ?_))
            intro g cp w3 hown3 hgrow hat hlt3
            have T3 := (HT.out.ext' ((Ext.refl wi).alloc (.cells #[.int .i64 (elOf x k l)] 3))).addA (x := elOf x k l) HTL1.out hgrow (hat.imp id (fun e => e.trans (by simp))) (by rw [List.map_take]; exact hown3)
            have hs3 := T3.ext.size
            have hown2 := T3.rb
            unfold IRow at hown2
            rw [HTL2.out] at hown2
            have HOWN2 := Lib.hid hown2; clear hown2
            have HT3 := Lib.hid T3; clear T3
            clear hgrow hat hown3
            go_wp2_with (at_builtin; go_loud (refine app1 _ rfl _ _ 52 3 rfl (.int .i64 0) 8 Try.underlying52 info_int rfl wM.heap.size _ l _ rfl (HOWN2.out.kept (row := none) ⟨((Ext.refl _).alloc _).os, ((Ext.refl _).alloc _).tape, ((Ext.refl _).alloc _).output, ((Ext.refl _).alloc _).size, fun k hk _ => ((Ext.refl _).alloc _).block hk⟩ (by cases (Value.ownBlock _) <;> simp)) w3.heap.size 1 3 (.int .i64 (elOf x k l)) rfl (Box.new _ _ _ rfl) rfl (by omega) (by omega) (by simp; omega) ?_))
            intro g6 cp6 w6 hown6 hgrow6 hat6 hlt6
            have T6 := ((HT3.out.swap.ext' ((Ext.refl w3).alloc (.cells #[.int .i64 (elOf x k l)] 3))).addA (x := elOf x k l) HTL2.out hgrow6 (hat6.imp id (fun e => e.trans (by simp))) (by rw [List.map_take]; exact hown6)).swap
            have HT6 := Lib.hid T6; clear T6
            clear hgrow6 hat6 hown6
            go_wp2
            go_roundw
            case rel => exact ⟨l + 1, by omega, by go_num, by rw [rowF_take_succ HLX.out, rowF_take_succ HLX.out, HL1.out, HH1.out]; exact HT6.out⟩
            case measure => simp [intOf]; omega
        · have hlm : (rowAt x k).length ≤ l := by rw [HRX.out.row k hlt]; omega
          have hf1 : (rowF (bLoF x p) x k).take l = rowF (bLoF x p) x k := List.take_of_length_le (by rw [rowF_length]; omega)
          have hf2 : (rowF (bHiF x p) x k).take l = rowF (bHiF x p) x k := List.take_of_length_le (by rw [rowF_length]; omega)
          have hT := HT.out
          rw [hf1, hf2, ← HRW.out.1, ← HRW.out.2] at hT
          clear HT hf1 hf2 hlm
          obtain ⟨wi, rfl⟩ : ∃ wi : World, wi = wi0 := ⟨_, rfl⟩
          obtain ⟨la, lc, rfl⟩ := hT.ra.form
          obtain ⟨ha, hc, rfl⟩ := hT.rb.form
          have OL := Lib.hid (hT.ra.own (Nat.le_refl _))
          have OH := Lib.hid (hT.rb.own (Nat.le_refl _))
          have hsM := hT.ext.size
          have A1 := HA1.out.ext' hT.ext
          clear hT
          have hsz1 := A1.sz
          have cb := A1.box.cell 0 (by simp)
          have htk : (L.take k).length = k := by have := HLL.out.1; simp; omega
          have htk2 : (H.take k).length = k := by have := HLL.out.2; simp; omega
          have E2 := (Ext.refl wi).alloc (.cells #[.slice la (rowAt L k).length lc] 52)
          have A2 := A1.ext' E2
          have hown := A2.lo.own
          rw [htk] at hown
          have HOWN := Lib.hid hown; clear hown
          have HTK2 := Lib.hid htk2; clear htk2 htk
          have HA2 := Lib.hid A2; clear A2 A1
          go_upto_region 17 with fail
          go_cut [22] from 22 to 79 (fun s22 wx => s22 = .int .i64 k ∧ ∃ (lv' : Value) (rl' : List Value) (HL' : Nat), BndA ws (w2.heap.size + 1) L H (k + 1) k HL' HH wx lv' hv rl' rh ∧ w2.heap.size + 1 + 1 ≤ HL' ∧ wi.heap.size ≤ wx.heap.size ∧ Own wM.heap.size wi.heap.size wx (.slice ha (rowAt H k).length hc) (rowAt H k))
          case first =>
            go_wp2_with (at_builtin; go_loud (refine app1 _ rfl _ _ 22 52 rfl (.slice none 0 0) 24 Try.underlying22 info_ints rfl (w2.heap.size + 1 + 1) _ k rl rfl HOWN.out wi.heap.size 1 52 (.slice la (rowAt L k).length lc) rfl (Box.new _ _ _ rfl) rfl (by omega) (by omega) (by simp; omega) ?_))
            intro g cp w3 hown3 hgrow hat hlt3
            have hb3 := HA2.out.box.upd (Upd.of_grown hgrow) (fun e => by have := (HA2.out.lo.blk e).1; omega)
            have c3 := hb3.cell 0 (by simp)
            have f3 := hb3.free 0
            have hsE := E2.size
            have A3 := HA2.out.addLo (M := wM.heap.size) (by have := HLL.out.1; omega) ((OL.out.ext E2).mono (Nat.le_refl _) hsE) HA1.out.bl hHL hgrow (hat.imp id (fun e => e.trans (by simp))) hown3
            have OH3 := Lib.hid (((OH.out.ext E2).keepSpine HA2.out.lo.own hgrow).put_away ⟨w2.heap.size + 1, 0, none⟩ (.slice (some ⟨g, 0, none⟩) (k + 1) cp) (.inl (by have := HA1.out.sz; simp only; omega)))
            have hs3 := hgrow.size
            simp at hs3
            have HA3 := Lib.hid A3; clear A3
            have HB3 := Lib.hid hb3; clear hb3
            clear hgrow hat hown3
            go_wp2_with fail
            go_meet
            exact ⟨rfl, _, _, _, HA3.out, by omega, by simp [World.setCell]; omega, OH3.out⟩
          case rest =>
            obtain ⟨rfl, lv', rl', HL', hA4, hHL', hszi, hO4⟩ := hcut
            obtain ⟨wj, rfl⟩ : ∃ wj : World, wj = wc := ⟨_, rfl⟩
            have cb := hA4.box.cell 1 (by simp)
            have hsz5 := hA4.sz
            have E5 := (Ext.refl wj).alloc (.cells #[.slice ha (rowAt H k).length hc] 52)
            have A5 := hA4.ext' E5
            have hown := A5.hi.own
            rw [HTK2.out] at hown
            have HOWN5 := Lib.hid hown; clear hown
            have HO4 := Lib.hid hO4; clear hO4
            have HA5 := Lib.hid A5; clear A5
            have HA4 := Lib.hid hA4; clear hA4
            clear HA2 HOWN
            go_wp2_with (at_builtin; go_loud (refine app1 _ rfl _ _ 22 52 rfl (.slice none 0 0) 24 Try.underlying22 info_ints rfl (w2.heap.size + 1 + 1) _ k rh rfl HOWN5.out wj.heap.size 1 52 (.slice ha (rowAt H k).length hc) rfl (Box.new _ _ _ rfl) rfl (by omega) (by omega) (by simp; omega) ?_))
            intro g cp w3 hown3 hgrow hat hlt3
            have hb3 := HA5.out.box.upd (Upd.of_grown hgrow) (fun e => by have := (HA5.out.hi.blk e).1; omega)
            have c3 := hb3.cell 1 (by simp)
            have f3 := hb3.free 1
            have hsE := E5.size
            have A6 := HA5.out.addHi (M := wM.heap.size) (by have := HLL.out.2; omega) ((HO4.out.ext E5).mono (Nat.le_refl _) (Nat.le_trans hszi hsE)) HA1.out.bh hHH hgrow (hat.imp id (fun e => e.trans (by simp))) hown3
            have hs3 := hgrow.size
            simp at hs3
            have hmi := HA1.out.bh
            have HA6 := Lib.hid A6; clear A6
            have HB3 := Lib.hid hb3; clear hb3
            clear hgrow hat hown3
            go_wp2
            go_roundw
            case rel => exact ⟨k + 1, _, _, _, _, _, _, by omega, by go_num, HA6.out, hHL', by omega⟩
            case measure => simp [intOf]; omega
    · have hk' : k = n := by omega
      have e2 : L.take k = L := List.take_of_length_le (by have := HLL.out.1; omega)
      have e3 : H.take k = H := List.take_of_length_le (by have := HLL.out.2; omega)
      clear hk'
      have h1' := HA1.out.lo
      have h2' := HA1.out.hi
      rw [e2] at h1'
      rw [e3] at h2'
      clear e2 e3
      have hbl := HA1.out.bl
      have hbh := HA1.out.bh
      have OLO := Lib.hid (h1'.ownG (Nat.le_refl _) hbl)
      have OHI := Lib.hid (h2'.ownG (Nat.le_refl _) hbh)
      obtain ⟨la, lc, rfl, _, _, qq⟩ := h1'.ownG (Nat.le_refl _) hbl
      clear qq
      obtain ⟨ha, hc, rfl, _, _, qq⟩ := h2'.ownG (Nat.le_refl _) hbh
      clear qq h1' h2'
      have hxo := uX.trans HA1.out.ext
      have hszo := HA1.out.sz
      have br := bR.ext HA1.out.ext
      have k0 := HA1.out.box.cell 0 (by simp)
      have k1 := HA1.out.box.cell 1 (by simp)
      clear HA1
      have f0 := br.free 0
      have f1 := br.free 1
      have g0 := br.cell 0 (by simp)
      have g1 := br.cell 1 (by simp)
      have P2 := OLO.out.put2 (B := w.heap.size) (by omega) (.slice la L.length lc) (.slice ha H.length hc)
      have P3 := OHI.out.put2 (B := w.heap.size) (by omega) (.slice la L.length lc) (.slice ha H.length hc)
      have hs := put2_size wM w.heap.size (.slice la L.length lc) (.slice ha H.length hc)
      have t1 := Nat.le_of_eq hs.symm
      have HPP := Lib.hid (And.intro P2 P3); clear P2 P3 hs
      go_wp2
      refine bodyPost_ret (v := .agg #[.slice la L.length lc, .slice ha H.length hc]) (by simp [results, Try.results47, go_sem, g0, g1]) rfl ⟨_, rfl, ?_, hxo.put2 (Nat.le_refl _) _ _⟩
      exact ⟨_, _, rl, rh, rfl, HPP.out.1.mono (by omega) t1, HPP.out.2.mono (by omega) t1⟩
end Go.Proofs.Ytginndoggpfadaa
namespace Go.Proofs.Ytginndoggpfadaa
open Go.RowKit
open Fm

noncomputable def expF (x p : List (List Int)) (i j : Nat) (v : Int) : Bool := decide (v = 1) && decide (qLo x p i j = qHi x p i j)
noncomputable def expV (x p : List (List Int)) : List (List Int) := if pubB x p = true then cellsL (expF x p) p else []
noncomputable def expQ (x p : List (List Int)) (r : List Int) : Bool := decide (qLo x p (ix r 0).toNat (ix r 1).toNat = qHi x p (ix r 0).toNat (ix r 1).toNat)
theorem expQ_pair (x p : List (List Int)) (i j : Nat) : expQ x p (pairI i j) = decide (qLo x p i j = qHi x p i j) := by
  have e0 : ix (pairI i j) 0 = (i : Int) := rfl
  have e1 : ix (pairI i j) 1 = (j : Int) := rfl
  simp [expQ, e0, e1]
theorem exp_filter (x p : List (List Int)) : (cellsL oneF p).filter (expQ x p) = cellsL (expF x p) p := by
  rw [cellsL_filter]
  simp only [expQ_pair]; rfl

set_option maxRecDepth 100000 in
set_option maxHeartbeats 3200000 in
theorem specExp_c (v1 : Value) (x : List (List Int)) (v2 : Value) (p : List (List Int)) (w : World) (h1 : Grid w v1 x) (h2 : Grid w v2 p) :
    Calls Try.prog 16 #[v1, v2] w (RetGrid (fun v' => .tuple #[v', .bool (pubB x p)]) w (expV x p)) := by
  have H1 := Lib.hid h1; clear h1
  have H2 := Lib.hid h2
  obtain ⟨ap, cp, rfl, p1, p2, p3⟩ := h2
  have G := Lib.hid p3; clear p3
  cases hq : pubB x p
  · have hV : expV x p = [] := by simp [expV, hq]
    rw [hV]; clear hV
    have HQ := Lib.hid hq; clear hq
    go_enter Try.func16, Try.ntmps16
    go_wp2_with fail
    refine (qPattern_b false _ _ x p _ HQ.out H1.out H2.out).mono ?_
    rintro e w1 ⟨rfl, d1⟩
    have u1 := Drew.ext d1
    go_wp2
    go_ret2
    exact ⟨_, [], rfl, OwnG.nil, u1⟩
  have hV : expV x p = cellsL (expF x p) p := by simp [expV, hq]
  rw [hV]; clear hV
  have hd := atk_dims hq
  have HRX := Lib.hid (pub_rc hq)
  have HRP := Lib.hid (pat_rc hq)
  have HQ := Lib.hid hq; clear hq
  obtain ⟨n, hn⟩ : ∃ n, x.length = n := ⟨_, rfl⟩
  obtain ⟨m, hm⟩ : ∃ m, (rowAt x 0).length = m := ⟨_, rfl⟩
  rw [hn] at HRX HRP hd
  rw [hm] at HRX HRP hd
  have hpl := HRP.out.len
  rw [hpl] at p1 H2
  rw [hpl]
  obtain ⟨d1, d2, d3, d4⟩ := hd
  have HN := Lib.hid hn; clear hn
  have HM := Lib.hid hm; clear hm
  have HPL := Lib.hid hpl; clear hpl
  have HR8 : Hid (∀ i, i < p.length → (rowAt p i).length ≤ 8) := Lib.hid (fun i hi => by rw [HRP.out.row i (by rw [← HPL.out]; exact hi)]; exact d4)
  have RL : Hid (Rc n m (mapG (bLoF x p) x)) := Lib.hid (mapG_rc HRX.out _)
  have RH : Hid (Rc n m (mapG (bHiF x p) x)) := Lib.hid (mapG_rc HRX.out _)
  have EL : Hid (∀ i j, i < n → j < m → elOf p i j = 1 → elOf (mapG (bLoF x p) x) i j = qLo x p i j ∧ elOf (mapG (bHiF x p) x) i j = qHi x p i j) := Lib.hid (fun i j hi hj h1 => ⟨by rw [el_mapG HRX.out _ hi hj]; unfold bLoF; rw [if_pos h1], by rw [el_mapG HRX.out _ hi hj]; unfold bHiF; rw [if_pos h1]⟩)
  obtain ⟨L, hL⟩ : ∃ L, mapG (bLoF x p) x = L := ⟨_, rfl⟩
  obtain ⟨H, hH⟩ : ∃ H, mapG (bHiF x p) x = H := ⟨_, rfl⟩
  have HD : Hid (bndD x p = ⟨L, H⟩) := Lib.hid (by unfold bndD; rw [hL, hH])
  rw [hL] at RL EL
  rw [hH] at RH EL
  clear hL hH
  obtain ⟨F, hF⟩ : ∃ F, expF x p = F := ⟨_, rfl⟩
  rw [hF]
  have HF := Lib.hid hF; clear hF
  go_enter Try.func16, Try.ntmps16
  go_wp2_with fail
  refine (qPattern_b true _ _ x p _ HQ.out H1.out H2.out).mono ?_
  rintro e w1 ⟨rfl, d1'⟩
  have u1 := Drew.ext d1'
  go_wp2_with fail
  refine (qBounds_c _ x _ p _ (H1.out.ext u1) (H2.out.ext u1) HQ.out).mono ?_
  rw [HD.out]
  rintro e w2 ⟨v', rfl, ob, u2⟩
  obtain ⟨v0, v1', r0, r1, rfl, o0, o1⟩ := ob
  have hg0 := o0.grid
  have hg1 := o1.grid
  clear o0 o1
  obtain ⟨aL, cL, rfl, _, _, gl⟩ := hg0
  obtain ⟨aH, cH, rfl, _, _, gh⟩ := hg1
  have uA := (Ext.refl w2).alloc (.cells #[.slice aL L.length cL, .slice aH H.length cH] 37)
  have b0 := Box.new w2 37 #[.slice aL L.length cL, .slice aH H.length cH] rfl
  obtain ⟨ws, hws⟩ : ∃ ws, w2.alloc (.cells #[.slice aL L.length cL, .slice aH H.length cH] 37) = ws := ⟨_, rfl⟩
  rw [hws] at uA b0
  have GL := Lib.hid (gl.ext uA); clear gl
  have GH := Lib.hid (gh.ext uA); clear gh
  have hll := RL.out.len
  have hlh := RH.out.len
  rw [hll, hlh] at b0 hws ⊢
  have HWS := Lib.hid hws; clear hws
  have HLL := Lib.hid hll; clear hll
  have HLH := Lib.hid hlh; clear hlh
  have uX := (u1.trans u2).trans uA
  clear u1 u2 uA d1'
  go_wp2
  try rw [HWS.out]
  go_loopw [7, 21] (fun r i wr => ∃ (k : Nat) (rvs : List Value), k ≤ n ∧ i = .int .i64 k ∧ GRow ws.heap.size wr.heap.size wr r rvs (cellsTo F p k 0) ∧ Ext ws wr) (fun _ i _ => n - (intOf i).toNat)
  case atStart => exact ⟨0, [], Nat.zero_le _, rfl, by rw [cellsTo_start]; exact GRow.nil, Ext.refl ws⟩
  case round =>
    obtain ⟨k, rvs, hk, rfl, hg, hx⟩ := hrel
    obtain ⟨wo, rfl⟩ : ∃ wo : World, wo = wr := ⟨_, rfl⟩
    have HG := Lib.hid hg; clear hg
    by_cases hlt : k < n
    · obtain ⟨b, o, ar, cr, rfl, hc0, q1, q2, q3⟩ := G.out.at_ (k := k) (by rw [HPL.out]; exact hlt)
      have hc := Ext.cell (uX.trans hx) hc0
      rw [HRP.out.row k hlt] at hc q1
      have R3 := Lib.hid q3; clear q3 hc0
      obtain ⟨bl, ol, al, cl, rfl, hcl, l1, l2, l3⟩ := GL.out.at_ (k := k) (by rw [HLL.out]; exact hlt)
      rw [RL.out.row k hlt] at hcl l1
      have L3 := Lib.hid l3; clear l3
      obtain ⟨bh, oh, ah, ch, rfl, hch, m1, m2, m3⟩ := GH.out.at_ (k := k) (by rw [HLH.out]; exact hlt)
      rw [RH.out.row k hlt] at hch m1
      have M3 := Lib.hid m3; clear m3
      go_wp2
      go_loopw [7, 28] (fun r i wr => ∃ (l : Nat) (rvs : List Value), l ≤ m ∧ i = .int .i64 l ∧ GRow ws.heap.size wr.heap.size wr r rvs (cellsTo F p k l) ∧ Ext ws wr) (fun _ i _ => m - (intOf i).toNat)
      case atStart => exact ⟨0, rvs, Nat.zero_le _, rfl, HG.out, hx⟩
      case round =>
        clear hc hx HG
        obtain ⟨l, rvs, hl', rfl, hg, hx⟩ := hrel
        obtain ⟨wi, rfl⟩ : ∃ wi : World, wi = wr := ⟨_, rfl⟩
        have HG := Lib.hid hg; clear hg
        by_cases hl2 : l < m
        · obtain ⟨b5, o5, rfl, hx5⟩ := R3.out l (by rw [HRP.out.row k hlt]; exact hl2)
          have e5 := Ext.cell (uX.trans hx) hx5
          have q5 : ix (rowAt p k) l = elOf p k l := rfl
          rw [q5] at e5
          clear q5 hx5
          obtain ⟨b6, o6, rfl, hx6⟩ := L3.out l (by rw [RL.out.row k hlt]; exact hl2)
          have e6 := Ext.cell hx hx6
          have q6 : ix (rowAt L k) l = elOf L k l := rfl
          rw [q6] at e6
          clear q6 hx6
          obtain ⟨b7, o7, rfl, hx7⟩ := M3.out l (by rw [RH.out.row k hlt]; exact hl2)
          have e7 := Ext.cell hx hx7
          have q7 : ix (rowAt H k) l = elOf H k l := rfl
          rw [q7] at e7
          clear q7 hx7
          have ecl := Ext.cell hx hcl
          have ech := Ext.cell hx hch
          have bb := b0.ext hx
          have y0 := bb.cell 0 (by simp)
          have y1 := bb.cell 1 (by simp)
          clear bb
          have hsz := hx.size
          have hszX := uX.size
          by_cases hone : elOf p k l = 1
          · have hel := EL.out k l hlt hl2 hone
            by_cases heq : elOf L k l = elOf H k l
            · have hf : F k l (elOf p k l) = true := by rw [← HF.out]; rw [hel.1, hel.2] at heq; simp [expF, hone, heq]
              have HCY := Lib.hid (cellsTo_yes hf); clear hf hel
              have hlen := cellsTo_len (f := F) (p := p) (k := k) (l := l) (m := 8) (by rw [HPL.out]; exact hk) HR8.out
              obtain ⟨N, hN⟩ : ∃ N, (cellsTo F p k l).length = N := ⟨_, rfl⟩
              rw [hN] at hlen
              have hn9 : N ≤ 80 := by omega
              clear hlen
              have HNN := Lib.hid hN; clear hN
              go_wp2_with fail
              go_quiet (fail)
              obtain ⟨wq, hwq⟩ : ∃ wq, wi.drewN nq = wq := ⟨_, rfl⟩
              have uq : Ext wi wq := by rw [← hwq]; exact (Ext.refl wi).drewN nq
              try rw [hwq]
              clear hwq
              have HG := Lib.hid ((HG.out.ext uq).mono uq.size)
              have hx := hx.trans uq
              have hs : ws.heap.size ≤ wq.heap.size := hx.size
              have ub := (Ext.refl wq).alloc (.cells #[.int .i64 k, .int .i64 l] 3)
              have uc := ub.alloc (.cells #[.slice (some ⟨wq.heap.size, 0, none⟩) 2 2] 52)
              have hz1 : (wq.alloc (.cells #[.int .i64 k, .int .i64 l] 3)).heap.size = wq.heap.size + 1 := by simp
              have bp := (Box.new wq 3 #[.int .i64 k, .int .i64 l] rfl).alloc (.cells #[.slice (some ⟨wq.heap.size, 0, none⟩) 2 2] 52)
              have hown := (HG.out.ext uc).own
              rw [HNN.out] at hown
              have HOWN := Lib.hid hown; clear hown
              have HBP := Lib.hid bp; clear bp
              have UC := Lib.hid uc; clear uc ub
              clear e5 e6 e7 ecl ech y0 y1
              go_wp2_with (at_builtin; go_loud (refine app1 _ rfl _ _ 22 52 rfl (.slice none 0 0) 24 Try.underlying22 info_ints rfl ws.heap.size _ N rvs rfl HOWN.out (wq.heap.size + 1) 1 52 (.slice (some ⟨wq.heap.size, 0, none⟩) 2 2) rfl (Box.new _ _ _ hz1.symm) rfl (by omega) (by omega) (by simp; omega) ?_))
              intro g cp' w3 hown3 hgrow hat hlt3
              have hsg := hgrow.size
              have hsg2 : wq.heap.size + 2 ≤ w3.heap.size := by simp at hsg; omega
              have gn := (HG.out.ext UC.out).push (hi' := w3.heap.size) (x := .slice (some ⟨wq.heap.size, 0, none⟩) 2 2) (r := pairI k l) hs ((Own.pair HBP.out).mono (Nat.le_refl _) (by omega)) (by omega) hgrow (by rw [HNN.out]; exact hown3)
              have hx3 := (HG.out.ext UC.out).grew (hx.trans UC.out) (Nat.le_refl _) hgrow
              have GN := Lib.hid gn; clear gn
              have HX3 := Lib.hid hx3; clear hx3
              clear hgrow hown3 hsg
              go_wp2
              go_roundw
              case rel => exact ⟨l + 1, _, by omega, by go_num, by rw [HCY.out]; exact GN.out, HX3.out⟩
              case measure => simp [intOf]; omega
            · have hf : F k l (elOf p k l) = false := by rw [← HF.out]; rw [hel.1, hel.2] at heq; simp [expF, heq]
              have HCN := Lib.hid (cellsTo_no hf); clear hf hel
              go_wp2_with fail
              go_quiet (fail)
              go_wp2
              go_roundw
              case rel => exact ⟨l + 1, rvs, by omega, by go_num, by rw [HCN.out]; exact HG.out.ext ((Ext.refl wi).drewN _), hx.drewN _⟩
              case measure => simp [intOf]; omega
          · have hf : F k l (elOf p k l) = false := by rw [← HF.out]; simp [expF, hone]
            have HCN := Lib.hid (cellsTo_no hf); clear hf
            go_wp2_with fail
            go_quiet (fail)
            go_wp2
            go_roundw
            case rel => exact ⟨l + 1, rvs, by omega, by go_num, by rw [HCN.out]; exact HG.out.ext ((Ext.refl wi).drewN _), hx.drewN _⟩
            case measure => simp [intOf]; omega
        · have hlm : l = (rowAt p k).length := by rw [HRP.out.row k hlt]; omega
          have HCX := Lib.hid (cellsTo_next (f := F) hlm); clear hlm
          go_wp2
          go_roundw
          case rel => exact ⟨k + 1, rvs, by omega, by go_num, by rw [HCX.out]; exact HG.out, hx⟩
          case measure => simp [intOf]; omega
    · have hkk : k = p.length := by rw [HPL.out]; omega
      have HKK := Lib.hid hkk; clear hkk
      go_wp2
      go_ret2
      exact ⟨_, rvs, rfl, by unfold cellsL; rw [← HKK.out]; exact (HG.out.ownG (Nat.le_refl _) (Nat.le_refl _)).mono uX.size (Nat.le_refl _), uX.trans hx⟩
set_option maxRecDepth 100000 in
set_option maxHeartbeats 3200000 in
theorem implExp_c (v1 : Value) (x : List (List Int)) (v2 : Value) (p : List (List Int)) (w : World) (h1 : Grid w v1 x) (h2 : Grid w v2 p) :
    Calls Try.prog 17 #[v1, v2] w (RetGrid (fun v' => .tuple #[v', .bool (pubB x p)]) w (expV x p)) := by
  have H1 := Lib.hid h1
  have H2 := Lib.hid h2; clear h2
  obtain ⟨ax, cx, rfl, x1, x2, x3⟩ := h1
  clear x3
  cases hp : pubB x p
  · have hV : expV x p = [] := by simp [expV, hp]
    rw [hV]; clear hV
    have HP := Lib.hid hp; clear hp
    go_enter Try.func17, Try.ntmps17
    go_wp2_with fail
    refine (areSuppressed_b false _ _ x p _ HP.out H1.out H2.out).mono ?_
    rintro e w ⟨rfl, rfl⟩
    go_wp2
    go_ret2
    exact ⟨_, [], rfl, OwnG.nil, Ext.refl _⟩
  have hV : expV x p = cellsL (expF x p) p := by simp [expV, hp]
  rw [hV]; clear hV
  have hd := atk_dims hp
  have HRX := Lib.hid (pub_rc hp)
  have HRS := Lib.hid (pat_rc hp)
  have HP := Lib.hid hp; clear hp
  obtain ⟨n, hn⟩ : ∃ n, x.length = n := ⟨_, rfl⟩
  obtain ⟨m, hm⟩ : ∃ m, (rowAt x 0).length = m := ⟨_, rfl⟩
  rw [hn] at HRS HRX hd x1 H1
  rw [hm] at HRS HRX hd
  rw [hn]
  have HN := Lib.hid hn; clear hn
  have HM := Lib.hid hm; clear hm
  obtain ⟨d1, d2, d3, d4⟩ := hd
  have hr8 : ∀ i, i < p.length → (rowAt p i).length ≤ 8 := fun i hi => by rw [HRS.out.row i (by rw [← HRS.out.len]; exact hi)]; exact d4
  have hs8 : p.length ≤ 8 := by rw [HRS.out.len]; exact d2
  have hl8 := cellsL_len (f := oneF) (p := p) (m := 8) hr8
  have HOF := Lib.hid (exp_filter x p)
  obtain ⟨F, hF⟩ : ∃ F, cellsL (expF x p) p = F := ⟨_, rfl⟩
  rw [hF] at HOF ⊢
  clear hF
  obtain ⟨L, hL⟩ : ∃ L, cellsL oneF p = L := ⟨_, rfl⟩
  obtain ⟨N, hN⟩ : ∃ N, L.length = N := ⟨_, rfl⟩
  rw [hL, hN] at hl8
  rw [hL] at HOF
  have hN64 : N ≤ 64 := by omega
  have HL := Lib.hid hL; clear hL
  have HNN := Lib.hid hN; clear hN hl8
  obtain ⟨Q, hQ⟩ : ∃ Q, expQ x p = Q := ⟨_, rfl⟩
  rw [hQ] at HOF
  have HQ := Lib.hid hQ; clear hQ
  go_enter Try.func17, Try.ntmps17
  go_wp2_with fail
  refine (areSuppressed_b true _ _ x p _ HP.out H1.out H2.out).mono ?_
  rintro e w ⟨rfl, rfl⟩
  go_wp2_with fail
  refine (attackNetwork_c _ x _ p _ H1.out H2.out HP.out).mono ?_
  rintro e w2 ⟨v2', rfl, ot, u2⟩
  have hr := ot.read
  clear ot
  obtain ⟨a0, c0, a1, c1, a2, c2, a3, c3, rfl⟩ := atk_form HP.out hr
  rw [HN.out, HM.out] at hr ⊢
  have HR := Lib.hid hr; clear hr
  have uA := (Ext.refl w2).alloc (.cells #[.slice a0 n c0, .slice a1 m c1, .slice a2 n c2, .slice a3 n c3] 58)
  have b0 := Box.new w2 58 #[.slice a0 n c0, .slice a1 m c1, .slice a2 n c2, .slice a3 n c3] rfl
  have uX := u2.trans uA
  go_wp2_with fail
  refine (positions_c _ p _ (H2.out.ext uX) hs8 hr8).mono ?_
  rw [HL.out]
  rintro e w4 ⟨v', rvs, rfl, og, u4⟩
  obtain ⟨aq, cq, rfl, l1, l2, og⟩ := og
  have OG := Lib.hid og; clear og
  have b4 := b0.ext u4
  have v4 := uX.trans u4
  have HRT := Lib.hid (HR.out.ext (uA.trans u4))
  have hz0 := uX.size
  have hz4 := u4.size
  rw [HNN.out] at l1 ⊢
  clear hs8 hr8 u2 uA u4
  go_wp2
  go_loopw [7, 22] (fun r i wr => ∃ t : Nat, t ≤ N ∧ i = .int .i64 t ∧ wr.ownsRow w4.heap.size 52 1 r (pickI Q L t).length ((pickI Q L t).map (rvAt rvs)) ∧ Ext w4 wr) (fun _ i _ => N - (intOf i).toNat)
  case atStart => exact ⟨0, Nat.zero_le _, rfl, by simpa [pickI] using World.ownsRow_nil _ _ _ _, Ext.refl _⟩
  case round =>
    obtain ⟨t, ht, rfl, hw, hx⟩ := hrel
    obtain ⟨wo, rfl⟩ : ∃ wo : World, wo = wr := ⟨_, rfl⟩
    have HW := Lib.hid hw; clear hw
    by_cases hlt : t < N
    · obtain ⟨i, j, hi, hjj, hf, er⟩ := cellsL_row (f := oneF) (p := p) (t := t) (by rw [HL.out, HNN.out]; exact hlt)
      rw [HL.out] at er
      have hi' : i < n := by rw [← HRS.out.len]; exact hi
      have hj' : j < m := by rw [← HRS.out.row i hi']; exact hjj
      clear hf hi hjj
      have htL : t < L.length := by rw [HNN.out]; exact hlt
      obtain ⟨bq, oq, rfl, _, _, _, hcq, _⟩ := (OG.out.ext hx).at_ (k := t) htL
      have hrow := (OG.out.ext hx).row t htL
      have hqv : Q (rowAt L t) = decide (qLo x p i j = qHi x p i j) := by rw [er, ← HQ.out, expQ_pair]
      rw [er] at hrow
      obtain ⟨ar, cr, erv, k1, k2, oa⟩ := hrow
      have k3 : (pairI i j).length = 2 := rfl
      rw [k3] at erv k1
      rw [erv] at hcq
      obtain ⟨b5, o5, rfl, _, _, _, hx5, _⟩ := oa.at_ (k := 0) (by rw [k3]; omega)
      obtain ⟨b5', o5', e6, _, _, _, hx6, _⟩ := oa.at_ (k := 1) (by rw [k3]; omega)
      simp only [Option.some.injEq, Addr.mk.injEq, and_true] at e6
      obtain ⟨rfl, rfl⟩ := e6
      have q5 : ix (pairI i j) 0 = (i : Int) := rfl
      have q6 : ix (pairI i j) 1 = (j : Int) := rfl
      rw [q5, Nat.add_zero] at hx5
      rw [q6] at hx6
      clear q5 q6 k3 oa er htL
      have ERV := Lib.hid erv; clear erv
      have bo := b4.ext hx
      have y0 : wo.cell? ⟨w2.heap.size, 0, none⟩ = some (.slice a0 n c0) := bo.cell 0 (by simp)
      have y1 : wo.cell? ⟨w2.heap.size, 1, none⟩ = some (.slice a1 m c1) := bo.cell 1 (by simp)
      have y2 : wo.cell? ⟨w2.heap.size, 2, none⟩ = some (.slice a2 n c2) := bo.cell 2 (by simp)
      have y3 : wo.cell? ⟨w2.heap.size, 3, none⟩ = some (.slice a3 n c3) := bo.cell 3 (by simp)
      clear bo
      have hxw := v4.trans hx
      have HT : Hid (TrR wo.drew (.agg #[.slice a0 n c0, .slice a1 m c1, .slice a2 n c2, .slice a3 n c3]) (atkT x p)) := Lib.hid (HRT.out.ext hx.drew)
      have HXX : Hid (Grid wo.drew (.slice ax n cx) x) := Lib.hid (H1.out.ext hxw.drew)
      have hli := pickI_len Q L t
      obtain ⟨VL, hVL⟩ : ∃ V, qLo x p i j = V := ⟨_, rfl⟩
      obtain ⟨VH, hVH⟩ : ∃ V, qHi x p i j = V := ⟨_, rfl⟩
      rw [hVL, hVH] at hqv
      have HVL : Hid (lowV (atkT x p) i j = VL) := Lib.hid hVL
      have HVH : Hid (highV (atkT x p) i j = VH) := Lib.hid hVH
      clear hVL hVH
      go_wp2_with fail
      go_region_held3 (fun x => x.cell? ⟨w2.heap.size, 0, none⟩ = some (.slice a0 n c0) ∧ x.cell? ⟨w2.heap.size, 1, none⟩ = some (.slice a1 m c1) ∧ x.cell? ⟨w2.heap.size, 2, none⟩ = some (.slice a2 n c2) ∧ x.cell? ⟨w2.heap.size, 3, none⟩ = some (.slice a3 n c3) ∧ x.cell? ⟨b5, o5, none⟩ = some (.int .i64 i) ∧ x.cell? ⟨b5, o5 + 1, none⟩ = some (.int .i64 j))
        (first | exact ⟨E5.cell y0, E5.cell y1, E5.cell y2, E5.cell y3, E5.cell hx5, E5.cell hx6⟩ | exact ⟨y0, y1, y2, y3, hx5, hx6⟩ | go_keep)
        ((go_at_call 45; refine (rangeOf_c (atkT x p) x a0 a1 a2 a3 ax c0 c1 c2 c3 cx n m i j _ (by rw [atk_rl]; exact HN.out) (by rw [atk_cl]; exact HM.out) HT.out HXX.out (atk_ok HP.out) HRX.out (atk_flow HP.out) hi' hj').mono ?_; rw [HVL.out, HVH.out]; rintro e w5 ⟨rfl, u5⟩; have E5 := (Ext.refl wo).drew.trans u5))
      have hx5' := hx.trans E5
      have HW5 := Lib.hid (ownsRow_ext HW.out E5)
      have hs5 := hx5'.size
      clear hx5 hx6 y0 y1 y2 y3 hcq
      by_cases heq : VL = VH
      · have HY := Lib.hid (pickI_yes (q := Q) (L := L) (t := t) (by rw [hqv]; simp [heq]))
        clear hqv
        obtain ⟨M, hM⟩ : ∃ M, (pickI Q L t).length = M := ⟨_, rfl⟩
        rw [hM] at hli HW5
        have HMM := Lib.hid hM; clear hM
        have uc := (Ext.refl w5).alloc (.cells #[.slice (some ⟨b5, o5, none⟩) 2 cr] 52)
        have HOWN := Lib.hid (ownsRow_ext HW5.out uc)
        have hxc := hx5'.trans uc
        have HXC := Lib.hid hxc; clear hxc uc
        go_wp2_with (at_builtin; go_loud (refine app1 _ rfl _ _ 22 52 rfl (.slice none 0 0) 24 Try.underlying22 info_ints rfl w4.heap.size _ M _ rfl HOWN.out w5.heap.size 1 52 (.slice (some ⟨b5, o5, none⟩) 2 cr) rfl (Box.new _ _ _ rfl) rfl (by omega) (by omega) (by simp; omega) ?_))
        intro g cp' w6 hown6 hgrow hat hlt6
        have hx6 := HXC.out.of_upd (Upd.of_grown hgrow) (fun b hb => by have := (World.ownsRow.lt HOWN.out b hb).1; omega)
        have HX6 := Lib.hid hx6; clear hx6 hgrow
        have HO6 : Hid (w6.ownsRow w4.heap.size 52 1 (.slice (some ⟨g, 0, none⟩) (M + 1) cp') (pickI Q L (t + 1)).length ((pickI Q L (t + 1)).map (rvAt rvs))) := Lib.hid (by
          rw [HY.out, List.map_append, List.length_append, HMM.out]
          simp only [List.map_cons, List.map_nil, List.length_cons, List.length_nil]
          rw [ERV.out]; exact hown6)
        clear hown6
        go_wp2
        go_roundw
        case rel => exact ⟨t + 1, by omega, by go_num, HO6.out, HX6.out⟩
        case measure => simp [intOf]; omega
      · have HY := Lib.hid (pickI_no (q := Q) (L := L) (t := t) (by rw [hqv]; simp [heq]))
        clear hqv
        go_wp2
        go_roundw
        case rel => exact ⟨t + 1, by omega, by go_num, by rw [HY.out]; exact HW5.out, hx5'⟩
        case measure => simp [intOf]; omega
    · have htN : t = L.length := by rw [HNN.out]; omega
      have HTN := Lib.hid htN; clear htN
      have hfin := pick_ownG (I := pickI Q L t) OG.out hx (fun s hs => by
        simp only [pickI, List.mem_filter, List.mem_range] at hs
        rw [← HTN.out]; exact hs.1) (List.Pairwise.filter _ List.nodup_range) HW.out hz4 hx.size
      rw [HTN.out, pickI_done, HOF.out, ← HTN.out] at hfin
      have HFI := Lib.hid (hfin.mono hz0 (Nat.le_refl _)); clear hfin
      have hxw := v4.trans hx
      go_wp2
      go_ret2
      exact ⟨_, _, rfl, HFI.out, hxw⟩
end Go.Proofs.Ytginndoggpfadaa
