/- The bounds that an attack leaves: Bounds' helpers, qBounds, ImpliedBounds. -/
import Derived.Test.YtginndoggpfadaaSep
import Derived.Test.YtginndoggpfadaaSec
import Derived.Deep.CutRange
import Derived.Test.YtginndoggpfadaaAllR0
namespace Go.Proofs.Ytginndoggpfadaa
open Go.RowKit

structure Bd where
  lo : List (List Int)
  hi : List (List Int)
/-- the value v reads as T -/
def BdR (w : World) (v : Value) (T : Bd) : Prop := ∃ v0 v1, v = .agg #[v0, v1] ∧ Grid w v0 T.lo ∧ Grid w v1 T.hi
def BdWf (T : Bd) : Prop := WfG T.lo ∧ WfG T.hi
def BdSmall (T : Bd) : Prop := Small T.lo ∧ Small T.hi
theorem BdR.ext {w w' : World} {v : Value} {T : Bd} (h : BdR w v T) (u : Ext w w') : BdR w' v T := by
  obtain ⟨v0, v1, rfl, h0, h1⟩ := h
  exact ⟨_, _, rfl, h0.ext u, h1.ext u⟩
theorem BdR.form {w : World} {v : Value} {T : Bd} (h : BdR w v T) : ∃ a0 c0 a1 c1, v = .agg #[.slice a0 T.lo.length c0, .slice a1 T.hi.length c1] ∧ T.lo.length ≤ 9223372036854775807 ∧ T.hi.length ≤ 9223372036854775807 := by
  obtain ⟨v0, v1, rfl, h0, h1⟩ := h
  obtain ⟨a0, c0, rfl, p0, q0, _⟩ := h0
  obtain ⟨a1, c1, rfl, p1, q1, _⟩ := h1
  exact ⟨a0, c0, a1, c1, rfl, by omega, by omega⟩
theorem BdR.f0 {w : World} {T : Bd} {v0 v1 : Value} (h : BdR w (.agg #[v0, v1]) T) : Grid w v0 T.lo := by
  obtain ⟨x0, x1, e, h0, h1⟩ := h
  simp only [Value.agg.injEq, Array.mk.injEq, List.cons.injEq, and_true] at e
  obtain ⟨rfl, rfl⟩ := e
  exact h0
theorem BdR.f1 {w : World} {T : Bd} {v0 v1 : Value} (h : BdR w (.agg #[v0, v1]) T) : Grid w v1 T.hi := by
  obtain ⟨x0, x1, e, h0, h1⟩ := h
  simp only [Value.agg.injEq, Array.mk.injEq, List.cons.injEq, and_true] at e
  obtain ⟨rfl, rfl⟩ := e
  exact h1
/-- the value v reads as T, each field in blocks of its own, which are apart from the other fields' -/
def BdO (lo hi : Nat) (w : World) (v : Value) (T : Bd) : Prop := ∃ (v0 v1 : Value) (r0 r1 : List Value), v = .agg #[v0, v1] ∧ OwnG lo hi w v0 r0 T.lo ∧ OwnG lo hi w v1 r1 T.hi ∧ Apart (GB v0 r0 T.lo) (GB v1 r1 T.hi)
/-- the same, the fields in ranges that follow one another -/
def BdL (lo hi : Nat) (w : World) (v : Value) (T : Bd) : Prop := ∃ (v0 v1 : Value) (r0 r1 : List Value) (m0 m1 m2 : Nat), v = .agg #[v0, v1] ∧ lo ≤ m0 ∧ m0 ≤ m1 ∧ m1 ≤ m2 ∧ m2 ≤ hi ∧ OwnG m0 m1 w v0 r0 T.lo ∧ OwnG m1 m2 w v1 r1 T.hi
/-- the value v reads as T, each field in blocks numbered from lo on and below hi -/
def BdN (lo hi : Nat) (w : World) (v : Value) (T : Bd) : Prop := ∃ (v0 v1 : Value) (r0 r1 : List Value), v = .agg #[v0, v1] ∧ OwnG lo hi w v0 r0 T.lo ∧ OwnG lo hi w v1 r1 T.hi
theorem BdL.o {lo hi : Nat} {w : World} {v : Value} {T : Bd} (h : BdL lo hi w v T) : BdO lo hi w v T := by
  obtain ⟨v0, v1, r0, r1, m0, m1, m2, rfl, l0, l1, l2, l9, o0, o1⟩ := h
  exact ⟨v0, v1, r0, r1, rfl, o0.mono (by omega) (by omega), o1.mono (by omega) (by omega), fun b h1 h2 => by have := o0.inside h1; have := o1.inside h2; omega⟩
theorem BdO.read {lo hi : Nat} {w : World} {v : Value} {T : Bd} (h : BdO lo hi w v T) : BdR w v T := by
  obtain ⟨v0, v1, r0, r1, rfl, o0, o1, d0_1⟩ := h
  exact ⟨v0, v1, rfl, o0.grid, o1.grid⟩
theorem BdO.ext {lo hi : Nat} {w w' : World} {v : Value} {T : Bd} (h : BdO lo hi w v T) (u : Ext w w') : BdO lo hi w' v T := by
  obtain ⟨v0, v1, r0, r1, rfl, o0, o1, d0_1⟩ := h
  exact ⟨v0, v1, r0, r1, rfl, o0.ext u, o1.ext u, d0_1⟩
theorem BdO.away {S : Nat → Prop} {lo hi : Nat} {w w' : World} {v : Value} {T : Bd} (h : BdO lo hi w v T) (u : Upd S w w') (hs : ∀ b, S b → b < lo ∨ hi ≤ b) : BdO lo hi w' v T := by
  obtain ⟨v0, v1, r0, r1, rfl, o0, o1, d0_1⟩ := h
  exact ⟨v0, v1, r0, r1, rfl, o0.away u hs, o1.away u hs, d0_1⟩
theorem BdO.mono {lo hi lo' hi' : Nat} {w : World} {v : Value} {T : Bd} (h : BdO lo hi w v T) (h1 : lo' ≤ lo) (h2 : hi ≤ hi') : BdO lo' hi' w v T := by
  obtain ⟨v0, v1, r0, r1, rfl, o0, o1, d0_1⟩ := h
  exact ⟨v0, v1, r0, r1, rfl, o0.mono h1 h2, o1.mono h1 h2, d0_1⟩
theorem BdN.read {lo hi : Nat} {w : World} {v : Value} {T : Bd} (h : BdN lo hi w v T) : BdR w v T := by
  obtain ⟨v0, v1, r0, r1, rfl, o0, o1⟩ := h
  exact ⟨v0, v1, rfl, o0.grid, o1.grid⟩
theorem BdN.ext {lo hi : Nat} {w w' : World} {v : Value} {T : Bd} (h : BdN lo hi w v T) (u : Ext w w') : BdN lo hi w' v T := by
  obtain ⟨v0, v1, r0, r1, rfl, o0, o1⟩ := h
  exact ⟨v0, v1, r0, r1, rfl, o0.ext u, o1.ext u⟩
theorem BdN.away {S : Nat → Prop} {lo hi : Nat} {w w' : World} {v : Value} {T : Bd} (h : BdN lo hi w v T) (u : Upd S w w') (hs : ∀ b, S b → b < lo ∨ hi ≤ b) : BdN lo hi w' v T := by
  obtain ⟨v0, v1, r0, r1, rfl, o0, o1⟩ := h
  exact ⟨v0, v1, r0, r1, rfl, o0.away u hs, o1.away u hs⟩
theorem BdN.mono {lo hi lo' hi' : Nat} {w : World} {v : Value} {T : Bd} (h : BdN lo hi w v T) (h1 : lo' ≤ lo) (h2 : hi ≤ hi') : BdN lo' hi' w v T := by
  obtain ⟨v0, v1, r0, r1, rfl, o0, o1⟩ := h
  exact ⟨v0, v1, r0, r1, rfl, o0.mono h1 h2, o1.mono h1 h2⟩

set_option maxHeartbeats 1600000 in
theorem eqBounds_t (v1 v2 : Value) (T : Bd) (w : World) (h1 : BdR w v1 T) (h2 : BdR w v2 T) :
    Calls Try.prog 24 #[v1, v2] w fun e w' => e = .returned (.bool true) ∧ Ext w w' := by
  have H1 := Lib.hid h1
  have H2 := Lib.hid h2
  obtain ⟨a0, c0, a1, c1, rfl, _, _⟩ := h1.form
  obtain ⟨d0, e0, d1, e1, rfl, _, _⟩ := h2.form
  clear h1 h2
  have v0 := ((Ext.refl w).alloc (.cells #[.slice a0 T.lo.length c0, .slice a1 T.hi.length c1] 37)).alloc (.cells #[.slice d0 T.lo.length e0, .slice d1 T.hi.length e1] 37)
  have b1_0 := (Box.new w 37 #[.slice a0 T.lo.length c0, .slice a1 T.hi.length c1] rfl).alloc (.cells #[.slice d0 T.lo.length e0, .slice d1 T.hi.length e1] 37)
  have b2_0 := Box.new (w.alloc (.cells #[.slice a0 T.lo.length c0, .slice a1 T.hi.length c1] 37)) 37 #[.slice d0 T.lo.length e0, .slice d1 T.hi.length e1] (b := w.heap.size + 1) (by simp)
  go_enter Try.func24, Try.ntmps24
  have k1_0_0 := b1_0.cell 0 (by simp)
  have k2_0_0 := b2_0.cell 0 (by simp)
  have k1_0_1 := b1_0.cell 1 (by simp)
  have k2_0_1 := b2_0.cell 1 (by simp)
  go_wp2_with fail
  refine (eqIntSS_b true _ _ T.lo T.lo _ (by simp) (H1.out.f0.ext v0) (H2.out.f0.ext v0)).mono ?_
  rintro e w1 ⟨rfl, d1_⟩
  have u1 := Drew.ext d1_
  have v1 := v0.trans u1
  have b1_1 := b1_0.ext u1
  have b2_1 := b2_0.ext u1
  have k1_1_0 := b1_1.cell 0 (by simp)
  have k2_1_0 := b2_1.cell 0 (by simp)
  have k1_1_1 := b1_1.cell 1 (by simp)
  have k2_1_1 := b2_1.cell 1 (by simp)
  go_wp2_with fail
  refine (eqIntSS_b true _ _ T.hi T.hi _ (by simp) (H1.out.f1.ext v1) (H2.out.f1.ext v1)).mono ?_
  rintro e w2 ⟨rfl, d2_⟩
  have u2 := Drew.ext d2_
  have v2 := v1.trans u2
  have b1_2 := b1_1.ext u2
  have b2_2 := b2_1.ext u2
  go_wp2
  go_ret
  exact ⟨rfl, v2⟩
def BdSize (T : Bd) : Int := (psum T.lo T.lo.length : Int) + (psum T.hi T.hi.length : Int)
theorem BdSmall.size {T : Bd} (h : BdSmall T) : 0 ≤ BdSize T ∧ BdSize T ≤ 2097152 := by
  obtain ⟨h0, h1⟩ := h
  have := h0.psum T.lo.length (Nat.le_refl _)
  have := h1.psum T.hi.length (Nat.le_refl _)
  unfold BdSize; omega
/-- T', of the shape of T, is marked from k0 on -/
def BdMarked (k0 : Int) (T T' : Bd) : Prop := MarkedG (k0) T.lo T'.lo ∧ MarkedG (k0 + (psum T.lo T.lo.length : Int)) T.hi T'.hi
set_option maxHeartbeats 1600000 in
theorem markBounds_c (lo hi : Nat) (v : Value) (T : Bd) (k0 : Int) (w : World) (h : BdO lo hi w v T) (s : BdSmall T) (hk0 : 0 ≤ k0 ∧ k0 ≤ 1099500000000) :
    Calls Try.prog 25 #[v, .int .i64 k0] w fun e w' => e = .returned (.int .i64 (k0 + BdSize T)) ∧ (∃ T', BdO lo hi w' v T' ∧ BdMarked k0 T T') ∧ Upd (fun b => lo ≤ b ∧ b < hi) w w' := by
  have HS := Lib.hid s; clear s
  obtain ⟨a0, c0, a1, c1, rfl, _⟩ := h.read.form
  obtain ⟨v0, v1, r0, r1, hv, o0, o1, d0_1⟩ := h
  simp only [Value.agg.injEq, Array.mk.injEq, List.cons.injEq, and_true] at hv
  obtain ⟨rfl, rfl⟩ := hv
  have u0 := (Ext.refl w).alloc (.cells #[.slice a0 T.lo.length c0, .slice a1 T.hi.length c1] 37)
  have b0 := Box.new w 37 #[.slice a0 T.lo.length c0, .slice a1 T.hi.length c1] rfl
  have IN0 := Lib.hid (show ∀ b, GB (.slice a0 T.lo.length c0) r0 T.lo b → lo ≤ b ∧ b < hi ∧ b < w.heap.size from fun b hb => o0.inside hb)
  have IN1 := Lib.hid (show ∀ b, GB (.slice a1 T.hi.length c1) r1 T.hi b → lo ≤ b ∧ b < hi ∧ b < w.heap.size from fun b hb => o1.inside hb)
  have D0_1 := Lib.hid d0_1; clear d0_1
  have O0_0 := Lib.hid (o0.ext u0); clear o0
  have O1_0 := Lib.hid (o1.ext u0); clear o1
  obtain ⟨t0, ht0⟩ : ∃ t, k0 + (psum T.lo T.lo.length : Int) = t := ⟨_, rfl⟩
  have tb0 : 0 ≤ t0 ∧ t0 ≤ 1099501048576 := by have := HS.out.1.psum _ (Nat.le_refl _); omega
  have HT0 := Lib.hid ht0; clear ht0
  obtain ⟨t1, ht1⟩ : ∃ t, t0 + (psum T.hi T.hi.length : Int) = t := ⟨_, rfl⟩
  have tb1 : 0 ≤ t1 ∧ t1 ≤ 1099502097152 := by have := HS.out.2.psum _ (Nat.le_refl _); omega
  have HT1 := Lib.hid ht1; clear ht1
  have k0_0 := b0.cell 0 (by simp)
  have k0_1 := b0.cell 1 (by simp)
  go_enter Try.func25, Try.ntmps25
  go_wp2_with fail
  refine (markIntSS_c _ _ _ _ T.lo k0 _ O0_0.out HS.out.1.row HS.out.1.psum (by omega)).mono ?_
  rw [HT0.out]
  rintro e w1 ⟨rfl, ⟨ys0, om0, mk0⟩, uu1⟩
  have MK0 := Lib.hid mk0; clear mk0
  have U1 : Hid (Upd (fun b => rowBlks r0 T.lo b ∧ b ≠ w.heap.size) _ w1) := Lib.hid (uu1.mono (fun b _ hb => ⟨hb, by have := IN0.out b (.inr hb); omega⟩))
  have OM0_1 := Lib.hid om0; clear om0 uu1
  have b1 := b0.upd U1.out (fun hb => hb.2 rfl)
  have k1_0 := b1.cell 0 (by simp)
  have k1_1 := b1.cell 1 (by simp)
  have O1_1 := Lib.hid (O1_0.out.keepB U1.out (fun b hb hs => D0_1.out b (.inr hs.1) hb))
  go_wp2_with fail
  refine (markIntSS_c _ _ _ _ T.hi t0 _ O1_1.out HS.out.2.row HS.out.2.psum (by omega)).mono ?_
  rw [HT1.out]
  rintro e w2 ⟨rfl, ⟨ys1, om1, mk1⟩, uu2⟩
  have MK1 := Lib.hid mk1; clear mk1
  have U2 : Hid (Upd (fun b => rowBlks r1 T.hi b ∧ b ≠ w.heap.size) _ w2) := Lib.hid (uu2.mono (fun b _ hb => ⟨hb, by have := IN1.out b (.inr hb); omega⟩))
  have OM1_2 := Lib.hid om1; clear om1 uu2
  have b2 := b1.upd U2.out (fun hb => hb.2 rfl)
  have k2_0 := b2.cell 0 (by simp)
  have k2_1 := b2.cell 1 (by simp)
  have OM0_2 := Lib.hid (OM0_1.out.keepB U2.out (fun b hb hs => D0_1.out b (GB.of_marked MK0.out hb) (.inr hs.1)))
  go_wp2
  go_ret
  refine ⟨ret_int (by unfold BdSize; have := HT0.out; have := HT1.out;  omega), ⟨⟨ys0, ys1⟩, ⟨.slice a0 T.lo.length c0, .slice a1 T.hi.length c1, r0, r1, rfl, by first | exact OM0_2.out | (simpa using OM0_2.out), by first | exact OM1_2.out | (simpa using OM1_2.out), fun b h1 h2 => D0_1.out b (GB.of_marked MK0.out h1) (GB.of_marked MK1.out h2)⟩, ?_⟩, ?_⟩
  · refine ⟨MK0.out, by rw [HT0.out]; exact MK1.out⟩
  · exact u0.then_upd ((U1.out.mono (fun b _ hb => by have := IN0.out b (.inr hb.1); omega)).trans (U2.out.mono (fun b _ hb => by have := IN1.out b (.inr hb.1); omega)))
set_option maxHeartbeats 1600000 in
theorem heldBounds_c (v : Value) (T T' : Bd) (k0 : Int) (w : World) (h : BdR w v T') (hm : BdMarked k0 T T') (s : BdSmall T) (hk0 : 0 ≤ k0 ∧ k0 ≤ 1099500000000) :
    Calls Try.prog 26 #[v, .int .i64 k0] w fun e w' => e = .returned (.int .i64 (k0 + BdSize T)) ∧ Ext w w' := by
  have HS := Lib.hid s; clear s
  have H := Lib.hid h
  have HM := Lib.hid hm; clear hm
  obtain ⟨a0, c0, a1, c1, rfl, _⟩ := h.form
  clear h
  have u0 := (Ext.refl w).alloc (.cells #[.slice a0 T'.lo.length c0, .slice a1 T'.hi.length c1] 37)
  have b0 := Box.new w 37 #[.slice a0 T'.lo.length c0, .slice a1 T'.hi.length c1] rfl
  obtain ⟨t0, ht0⟩ : ∃ t, k0 + (psum T.lo T.lo.length : Int) = t := ⟨_, rfl⟩
  have tb0 : 0 ≤ t0 ∧ t0 ≤ 1099501048576 := by have := HS.out.1.psum _ (Nat.le_refl _); omega
  have tn0 : ¬ (t0 < 0) := by omega
  have HT0 := Lib.hid ht0; clear ht0
  obtain ⟨t1, ht1⟩ : ∃ t, t0 + (psum T.hi T.hi.length : Int) = t := ⟨_, rfl⟩
  have tb1 : 0 ≤ t1 ∧ t1 ≤ 1099502097152 := by have := HS.out.2.psum _ (Nat.le_refl _); omega
  have tn1 : ¬ (t1 < 0) := by omega
  have HT1 := Lib.hid ht1; clear ht1
  have k0_0 := b0.cell 0 (by simp)
  have k0_1 := b0.cell 1 (by simp)
  go_enter Try.func26, Try.ntmps26
  go_wp2_with fail
  refine (heldIntSS_c _ T.lo T'.lo k0 _ (H.out.f0.ext u0) (by have := HM.out.1; exact this) HS.out.1.row HS.out.1.psum (by omega)).mono ?_
  rw [HT0.out]
  rintro e w' ⟨rfl, rfl⟩
  go_wp2_with fail
  refine (heldIntSS_c _ T.hi T'.hi t0 _ (H.out.f1.ext u0) (by have := HM.out.2; rw [HT0.out] at this; exact this) HS.out.2.row HS.out.2.psum (by omega)).mono ?_
  rw [HT1.out]
  rintro e w' ⟨rfl, rfl⟩
  go_wp2
  go_ret
  exact ⟨ret_int (by unfold BdSize; have := HT0.out; have := HT1.out;  omega), u0⟩
end Go.Proofs.Ytginndoggpfadaa
namespace Go.Proofs.Ytginndoggpfadaa
open Go.RowKit
open Fm

noncomputable def bLoF (x p : List (List Int)) (i j : Nat) (v : Int) : Int := if elOf p i j = 1 then qLo x p i j else v
noncomputable def bHiF (x p : List (List Int)) (i j : Nat) (v : Int) : Int := if elOf p i j = 1 then qHi x p i j else v
noncomputable def bndD (x p : List (List Int)) : Bd := ⟨mapG (bLoF x p) x, mapG (bHiF x p) x⟩

/-- bounds under way: kl rows of lo, kh rows of hi; HL, HH: bounds of the rows' blocks -/
structure BndA (w : World) (B : Nat) (L H : List (List Int)) (kl kh HL HH : Nat) (wr : World) (lv hv : Value) (rl rh : List Value) : Prop where
  box : Box wr B 37 #[lv, hv]
  lo : GRow (B + 1) HL wr lv rl (L.take kl)
  hi : GRow (B + 1) HH wr hv rh (H.take kh)
  d3 : ∀ b, lv.ownBlock = some b → hv.ownBlock ≠ some b
  ext : Ext w wr
  sz : B + 1 ≤ wr.heap.size
  szw : w.heap.size ≤ B
  bl : HL ≤ wr.heap.size
  bh : HH ≤ wr.heap.size
namespace BndA
variable {w wo wb w3 : World} {B kl kh HL HH g cp : Nat} {L H : List (List Int)} {lv hv : Value} {rl rh : List Value}
theorem ext' (h : BndA w B L H kl kh HL HH wo lv hv rl rh) (E : Ext wo wb) : BndA w B L H kl kh HL HH wb lv hv rl rh :=
  ⟨h.box.ext E, h.lo.ext E, h.hi.ext E, h.d3, h.ext.trans E, Nat.le_trans h.sz E.size, h.szw, Nat.le_trans h.bl E.size, Nat.le_trans h.bh E.size⟩
theorem addLo {ov : Value} {M : Nat} (h : BndA w B L H kl kh HL HH wb lv hv rl rh) (hk : kl < L.length) (hx : Own M wb.heap.size wb ov (rowAt L kl)) (hM : HL ≤ M) (hB : B + 1 ≤ HL)
    (hg : wb.grownBy w3 lv.ownBlock) (hat : lv.ownBlock = some g ∨ g = wb.heap.size)
    (hown : w3.ownsRow (B + 1) 52 1 (.slice (some ⟨g, 0, none⟩) (kl + 1) cp) (kl + 1) (rl ++ [ov])) :
    BndA w B L H (kl + 1) kh w3.heap.size HH (w3.setCell ⟨B, 0, none⟩ (.slice (some ⟨g, 0, none⟩) (kl + 1) cp)) (.slice (some ⟨g, 0, none⟩) (kl + 1) cp) hv (rl ++ [ov]) rh := by
  have hlen : (L.take kl).length = kl := by simp; omega
  have hs := hg.size
  have hsz := h.sz
  have hbl := h.bl
  have hbh := h.bh
  have hp := h.lo.push (hi' := w3.heap.size) (x := ov) (r := rowAt L kl) hB ((hx.mono hM (Nat.le_refl _)).mono (Nat.le_refl _) hs) (by omega) hg (by rw [hlen]; exact hown)
  have hb := (h.box.upd (Upd.of_grown hg) (fun e => by have := (h.lo.blk e).1; omega)).set 0 (.slice (some ⟨g, 0, none⟩) (kl + 1) cp)
  refine ⟨hb, ?_, (h.hi.keepSpine h.lo.own hg h.d3).put (by simp) _, fun b e => ?_, (h.lo.grew h.ext (by have := h.szw; omega) hg).setCell _ h.szw, by simp [World.setCell]; omega, h.szw, by simp [World.setCell], by simp [World.setCell]; omega⟩
  · rw [take_succ_row hk]; exact hp.put (by simp) _
  · simp only [Value.ownBlock, Option.some.injEq] at e
    subst e
    rcases hat with e | e
    · exact h.d3 _ e
    · intro e2; have := (h.hi.blk e2).2; omega
theorem addHi {ov : Value} {M : Nat} (h : BndA w B L H kl kh HL HH wb lv hv rl rh) (hk : kh < H.length) (hx : Own M wb.heap.size wb ov (rowAt H kh)) (hM : HH ≤ M) (hB : B + 1 ≤ HH)
    (hg : wb.grownBy w3 hv.ownBlock) (hat : hv.ownBlock = some g ∨ g = wb.heap.size)
    (hown : w3.ownsRow (B + 1) 52 1 (.slice (some ⟨g, 0, none⟩) (kh + 1) cp) (kh + 1) (rh ++ [ov])) :
    BndA w B L H kl (kh + 1) HL w3.heap.size (w3.setCell ⟨B, 1, none⟩ (.slice (some ⟨g, 0, none⟩) (kh + 1) cp)) lv (.slice (some ⟨g, 0, none⟩) (kh + 1) cp) rl (rh ++ [ov]) := by
  have hlen : (H.take kh).length = kh := by simp; omega
  have hs := hg.size
  have hsz := h.sz
  have hbl := h.bl
  have hbh := h.bh
  have hp := h.hi.push (hi' := w3.heap.size) (x := ov) (r := rowAt H kh) hB ((hx.mono hM (Nat.le_refl _)).mono (Nat.le_refl _) hs) (by omega) hg (by rw [hlen]; exact hown)
  have hb := (h.box.upd (Upd.of_grown hg) (fun e => by have := (h.hi.blk e).1; omega)).set 1 (.slice (some ⟨g, 0, none⟩) (kh + 1) cp)
  refine ⟨hb, (h.lo.keepSpine h.hi.own hg (fun b e e2 => h.d3 b e2 e)).put (by simp) _, ?_, fun b e => ?_, (h.hi.grew h.ext (by have := h.szw; omega) hg).setCell _ h.szw, by simp [World.setCell]; omega, h.szw, by simp [World.setCell]; omega, by simp [World.setCell]⟩
  · rw [take_succ_row hk]; exact hp.put (by simp) _
  · intro e2
    simp only [Value.ownBlock, Option.some.injEq] at e2
    subst e2
    rcases hat with e3 | e3
    · exact h.d3 _ e e3
    · have := (h.lo.blk e).2; omega
end BndA
abbrev put2 (w : World) (B : Nat) (x0 x1 : Value) : World := (w.setCell ⟨B, 0, none⟩ x0).setCell ⟨B, 1, none⟩ x1
theorem OwnG.put2 {w : World} {lo hi B : Nat} {v : Value} {rvs : List Value} {xss : List (List Int)} (h : OwnG lo hi w v rvs xss) (hB : B < lo) (x0 x1 : Value) : OwnG lo hi (put2 w B x0 x1) v rvs xss :=
  (h.put_away _ _ (.inl hB)).put_away _ _ (.inl hB)
theorem Ext.put2 {u w : World} {B : Nat} (h : Ext u w) (hB : u.heap.size ≤ B) (x0 x1 : Value) : Ext u (put2 w B x0 x1) := (h.setCell _ hB).setCell _ hB
theorem put2_size (w : World) (B : Nat) (x0 x1 : Value) : (put2 w B x0 x1).heap.size = w.heap.size := by simp [put2, World.setCell]

set_option maxRecDepth 100000 in
set_option maxHeartbeats 6400000 in
theorem qBounds_c (v1 : Value) (x : List (List Int)) (v2 : Value) (p : List (List Int)) (w : World) (h1 : Grid w v1 x) (h2 : Grid w v2 p) (hq : pubB x p = true) :
    Calls Try.prog 47 #[v1, v2] w fun e w' => ∃ v', e = .returned v' ∧ BdN w.heap.size w'.heap.size w' v' (bndD x p) ∧ Ext w w' := by
  have H1 := Lib.hid h1
  have H2 := Lib.hid h2
  obtain ⟨ax, cx, rfl, hx1, hx2, hx3⟩ := h1
  have GX := Lib.hid hx3; clear hx3
  obtain ⟨ap, cap, rfl, hp1, hp2, hp3⟩ := h2
  have GP := Lib.hid hp3; clear hp3
  have hd := atk_dims hq
  have HRX := Lib.hid (pub_rc hq)
  have HRP := Lib.hid (pat_rc hq)
  have HP := Lib.hid hq; clear hq
  obtain ⟨n, hn⟩ : ∃ n, x.length = n := ⟨_, rfl⟩
  obtain ⟨m, hm⟩ : ∃ m, (rowAt x 0).length = m := ⟨_, rfl⟩
  rw [hn] at HRX HRP hd hx1 H1
  rw [hm] at HRX HRP hd
  have hpl := HRP.out.len
  rw [hpl] at hp1 H2
  rw [hn, hpl]
  obtain ⟨d1, d2, d3, d4⟩ := hd
  have HN := Lib.hid hn; clear hn
  have HM := Lib.hid hm; clear hm
  have HPL := Lib.hid hpl; clear hpl
  obtain ⟨L, hL⟩ : ∃ L, mapG (bLoF x p) x = L := ⟨_, rfl⟩
  obtain ⟨H, hH⟩ : ∃ H, mapG (bHiF x p) x = H := ⟨_, rfl⟩
  have HLL : Hid (L.length = n ∧ H.length = n) := Lib.hid ⟨by rw [← hL, mapG_length]; exact HN.out, by rw [← hH, mapG_length]; exact HN.out⟩
  have HLR : Hid (∀ k, k < n → rowAt L k = rowF (bLoF x p) x k ∧ rowAt H k = rowF (bHiF x p) x k) := Lib.hid (fun k hk => ⟨by rw [← hL]; exact rowAt_mapG (by rw [HN.out]; exact hk), by rw [← hH]; exact rowAt_mapG (by rw [HN.out]; exact hk)⟩)
  have HD : Hid (bndD x p = ⟨L, H⟩) := Lib.hid (by unfold bndD; rw [hL, hH])
  rw [HD.out]
  clear hL hH
  have u0 := (Ext.refl w).alloc (.cells #[.slice none 0 0, .slice none 0 0] 37)
  have b0 := Box.new w 37 #[.slice none 0 0, .slice none 0 0] rfl
  have z0 : (w.alloc (.cells #[.slice none 0 0, .slice none 0 0] 37)).heap.size = w.heap.size + 1 := by simp
  go_enter Try.func47, Try.ntmps47
  go_wp2_with fail
  refine (qNetwork_c _ x _ p _ (H1.out.ext u0) (H2.out.ext u0) HP.out).mono ?_
  rintro e w2 ⟨v2', rfl, ot, u2⟩
  have hr := ot.read
  clear ot
  obtain ⟨a0, c0, a1, c1, a2, c2, a3, c3, rfl⟩ := atk_form HP.out hr
  rw [HN.out, HM.out] at hr ⊢
  have HR := Lib.hid hr; clear hr
  have uA := (Ext.refl w2).alloc (.cells #[.slice a0 n c0, .slice a1 m c1, .slice a2 n c2, .slice a3 n c3] 58)
  have bA := Box.new w2 58 #[.slice a0 n c0, .slice a1 m c1, .slice a2 n c2, .slice a3 n c3] rfl
  obtain ⟨ws, hws⟩ : ∃ ws, w2.alloc (.cells #[.slice a0 n c0, .slice a1 m c1, .slice a2 n c2, .slice a3 n c3] 58) = ws := ⟨_, rfl⟩
  have hzs : ws.heap.size = w2.heap.size + 1 := by rw [← hws]; simp
  rw [hws] at uA bA
  have HWS := Lib.hid hws; clear hws
  have HRS := Lib.hid (HR.out.ext uA)
  have uX := (u0.trans u2).trans uA
  have bR := (b0.ext u2).ext uA
  have hz2 : w.heap.size + 1 ≤ w2.heap.size := by have := u2.size; omega
  have b1 := Box.new ws 37 #[.slice none 0 0, .slice none 0 0] (b := w2.heap.size + 1) hzs.symm
  have hst : BndA ws (w2.heap.size + 1) L H 0 0 (w2.heap.size + 1 + 1) (w2.heap.size + 1 + 1) (ws.alloc (.cells #[.slice none 0 0, .slice none 0 0] 37)) (.slice none 0 0) (.slice none 0 0) [] [] :=
    ⟨b1, GRow.nil, GRow.nil, fun b e => by simp [Value.ownBlock] at e, (Ext.refl _).alloc _, by simp; omega, by omega, by simp; omega, by simp; omega⟩
  have HST := Lib.hid hst; clear hst b1 b0 z0
  clear u0 u2 uA
  go_wp2
  rw [HWS.out]
  go_loopw [22] (fun i wr => ∃ (k : Nat) (lv hv : Value) (rl rh : List Value) (HL HH : Nat), k ≤ n ∧ i = .int .i64 k ∧ BndA ws (w2.heap.size + 1) L H k k HL HH wr lv hv rl rh ∧ w2.heap.size + 1 + 1 ≤ HL ∧ w2.heap.size + 1 + 1 ≤ HH) (fun i _ => n - (intOf i).toNat)
  case atStart => exact ⟨0, _, _, _, _, _, _, Nat.zero_le _, rfl, HST.out, Nat.le_refl _, Nat.le_refl _⟩
  case round =>
    obtain ⟨k, lv, hv, rl, rh, HL, HH, hk, rfl, hA, hHL, hHH⟩ := hrel
    obtain ⟨wM, rfl⟩ : ∃ wM : World, wM = wr := ⟨_, rfl⟩
    have HA1 := Lib.hid hA; clear hA
    by_cases hlt : k < n
    · have hxo := uX.trans HA1.out.ext
      obtain ⟨b, o, ar, cr, rfl, hc0, r1, r2, r3⟩ := GX.out.at_ (k := k) (by rw [HN.out]; exact hlt)
      have hc := Ext.cell hxo hc0
      rw [HRX.out.row k hlt] at hc r1
      have R3 := Lib.hid r3; clear r3 hc0
      obtain ⟨bp, op, ap2, cp2, rfl, hcp0, p1, p2, p3⟩ := GP.out.at_ (k := k) (by rw [HPL.out]; exact hlt)
      rw [HRP.out.row k hlt] at hcp0 p1
      have P3 := Lib.hid p3; clear p3
      have hrow := HLR.out k hlt
      have HRW := Lib.hid hrow; clear hrow
      go_wp2
      go_loopw [9, 10, 29] (fun lo hi i wr => ∃ l : Nat, l ≤ m ∧ i = .int .i64 l ∧ Two wM wr lo hi ((rowF (bLoF x p) x k).take l) ((rowF (bHiF x p) x k).take l)) (fun _ _ i _ => m - (intOf i).toNat)
      case atStart => exact ⟨0, Nat.zero_le _, rfl, by simpa using Two.nil wM⟩
      case round =>
        clear hc
        obtain ⟨l, hl, rfl, hT⟩ := hrel
        obtain ⟨wi0, rfl⟩ : ∃ wi0 : World, wi0 = wr := ⟨_, rfl⟩
        have HT := Lib.hid hT; clear hT
        by_cases hl2 : l < m
        · have hl2x : l < (rowAt x k).length := by rw [HRX.out.row k hlt]; exact hl2
          have hl2p : l < (rowAt p k).length := by rw [HRP.out.row k hlt]; exact hl2
          have hxi := hxo.trans HT.out.ext
          obtain ⟨bx, ox, rfl, hcx0⟩ := R3.out l hl2x
          obtain ⟨bq, oq, rfl, hcq0⟩ := P3.out l hl2p
          have hcx := Ext.cell hxi hcx0
          have hcq := Ext.cell hxi hcq0
          have hcp := Ext.cell hxi hcp0
          have q5 : ix (rowAt x k) l = elOf x k l := rfl
          have q6 : ix (rowAt p k) l = elOf p k l := rfl
          have HE5 := Lib.hid q5
          rw [q5] at hcx
          rw [q6] at hcq
          clear hcx0 hcq0 q5 q6
          have htl1 : ((rowF (bLoF x p) x k).take l).length = l := by simp [rowF_length]; omega
          have htl2 : ((rowF (bHiF x p) x k).take l).length = l := by simp [rowF_length]; omega
          have HTL1 := Lib.hid htl1; clear htl1
          have HTL2 := Lib.hid htl2; clear htl2
          have bT := bA.ext (HA1.out.ext.trans HT.out.ext)
          have y0 := bT.cell 0 (by simp)
          have y1 := bT.cell 1 (by simp)
          have y2 := bT.cell 2 (by simp)
          have y3 := bT.cell 3 (by simp)
          have HLX := Lib.hid hl2x; clear hl2x hl2p bT
          have HXI := Lib.hid hxi; clear hxi
          by_cases hone : elOf p k l = 1
          · obtain ⟨VL, hVL⟩ : ∃ V, qLo x p k l = V := ⟨_, rfl⟩
            obtain ⟨VH, hVH⟩ : ∃ V, qHi x p k l = V := ⟨_, rfl⟩
            have HL1 : Hid (bLoF x p k l (ix (rowAt x k) l) = VL) := Lib.hid (by unfold bLoF; rw [if_pos hone, hVL])
            have HH1 : Hid (bHiF x p k l (ix (rowAt x k) l) = VH) := Lib.hid (by unfold bHiF; rw [if_pos hone, hVH])
            have HVL : Hid (lowV (atkT x p) k l = VL) := Lib.hid hVL
            have HVH : Hid (highV (atkT x p) k l = VH) := Lib.hid hVH
            clear hVL hVH
            go_wp2_with fail
            refine (tRange_c true (atkT x p) a0 a1 a2 a3 c0 c1 c2 c3 n m k l _ (atk_feas HP.out) (by rw [atk_rl]; exact HN.out) (by rw [atk_cl]; exact HM.out) (HRS.out.ext (HA1.out.ext.trans HT.out.ext)) (atk_ok HP.out) hlt hl2).mono ?_
            simp only [if_true]
            rw [HVL.out, HVH.out]
            rintro e wi ⟨rfl, ui⟩
            have HT := Lib.hid (HT.out.ext' ui)
            have hsM := HT.out.ext.size
            have hown1 := HT.out.ra
            unfold IRow at hown1
            rw [HTL1.out] at hown1
            have HOWN1 := Lib.hid hown1; clear hown1
            go_wp2_with (at_builtin; go_loud (refine app1 _ rfl _ _ 52 3 rfl (.int .i64 0) 8 Try.underlying52 info_int rfl wM.heap.size _ l _ rfl (HOWN1.out.kept (row := none) ⟨((Ext.refl _).alloc _).os, ((Ext.refl _).alloc _).tape, ((Ext.refl _).alloc _).output, ((Ext.refl _).alloc _).size, fun k hk _ => ((Ext.refl _).alloc _).block hk⟩ (by cases (Value.ownBlock _) <;> simp)) wi.heap.size 1 3 (.int .i64 VL) rfl (Box.new _ _ _ rfl) rfl (by omega) (by omega) (by simp; omega) ?_))
            intro g cp w3 hown3 hgrow hat hlt3
            have T3 := (HT.out.ext' ((Ext.refl wi).alloc (.cells #[.int .i64 VL] 3))).addA (x := VL) HTL1.out hgrow (hat.imp id (fun e => e.trans (by simp))) (by rw [List.map_take]; exact hown3)
            have hs3 := T3.ext.size
            have hown2 := T3.rb
            unfold IRow at hown2
            rw [HTL2.out] at hown2
            have HOWN2 := Lib.hid hown2; clear hown2
            have HT3 := Lib.hid T3; clear T3
            clear hgrow hat hown3
            go_wp2_with (at_builtin; go_loud (refine app1 _ rfl _ _ 52 3 rfl (.int .i64 0) 8 Try.underlying52 info_int rfl wM.heap.size _ l _ rfl (HOWN2.out.kept (row := none) ⟨((Ext.refl _).alloc _).os, ((Ext.refl _).alloc _).tape, ((Ext.refl _).alloc _).output, ((Ext.refl _).alloc _).size, fun k hk _ => ((Ext.refl _).alloc _).block hk⟩ (by cases (Value.ownBlock _) <;> simp)) w3.heap.size 1 3 (.int .i64 VH) rfl (Box.new _ _ _ rfl) rfl (by omega) (by omega) (by simp; omega) ?_))
            intro g6 cp6 w6 hown6 hgrow6 hat6 hlt6
            have T6 := ((HT3.out.swap.ext' ((Ext.refl w3).alloc (.cells #[.int .i64 VH] 3))).addA (x := VH) HTL2.out hgrow6 (hat6.imp id (fun e => e.trans (by simp))) (by rw [List.map_take]; exact hown6)).swap
            have HT6 := Lib.hid T6; clear T6
            clear hgrow6 hat6 hown6
            go_wp2
            go_roundw
            case rel => exact ⟨l + 1, by omega, by go_num, by rw [rowF_take_succ HLX.out, rowF_take_succ HLX.out, HL1.out, HH1.out]; exact HT6.out⟩
            case measure => simp [intOf]; omega
          · have HL1 : Hid (bLoF x p k l (ix (rowAt x k) l) = elOf x k l) := Lib.hid (by unfold bLoF; rw [if_neg hone]; rfl)
            have HH1 : Hid (bHiF x p k l (ix (rowAt x k) l) = elOf x k l) := Lib.hid (by unfold bHiF; rw [if_neg hone]; rfl)
            have hsM := HT.out.ext.size
            have hown1 := HT.out.ra
            unfold IRow at hown1
            rw [HTL1.out] at hown1
            have HOWN1 := Lib.hid hown1; clear hown1
            obtain ⟨wi, rfl⟩ : ∃ wi : World, wi = wi0 := ⟨_, rfl⟩
            go_wp2_with (at_builtin; go_loud (refine app1 _ rfl _ _ 52 3 rfl (.int .i64 0) 8 Try.underlying52 info_int rfl wM.heap.size _ l _ rfl (HOWN1.out.kept (row := none) ⟨((Ext.refl _).alloc _).os, ((Ext.refl _).alloc _).tape, ((Ext.refl _).alloc _).output, ((Ext.refl _).alloc _).size, fun k hk _ => ((Ext.refl _).alloc _).block hk⟩ (by cases (Value.ownBlock _) <;> simp)) wi.heap.size 1 3 (.int .i64 (elOf x k l)) rfl (Box.new _ _ _ rfl) rfl (by omega) (by omega) (by simp; omega) ?_))
            intro g cp w3 hown3 hgrow hat hlt3
            have T3 := (HT.out.ext' ((Ext.refl wi).alloc (.cells #[.int .i64 (elOf x k l)] 3))).addA (x := elOf x k l) HTL1.out hgrow (hat.imp id (fun e => e.trans (by simp))) (by rw [List.map_take]; exact hown3)
            have hs3 := T3.ext.size
            have hown2 := T3.rb
            unfold IRow at hown2
            rw [HTL2.out] at hown2
            have HOWN2 := Lib.hid hown2; clear hown2
            have HT3 := Lib.hid T3; clear T3
            clear hgrow hat hown3
            go_wp2_with (at_builtin; go_loud (refine app1 _ rfl _ _ 52 3 rfl (.int .i64 0) 8 Try.underlying52 info_int rfl wM.heap.size _ l _ rfl (HOWN2.out.kept (row := none) ⟨((Ext.refl _).alloc _).os, ((Ext.refl _).alloc _).tape, ((Ext.refl _).alloc _).output, ((Ext.refl _).alloc _).size, fun k hk _ => ((Ext.refl _).alloc _).block hk⟩ (by cases (Value.ownBlock _) <;> simp)) w3.heap.size 1 3 (.int .i64 (elOf x k l)) rfl (Box.new _ _ _ rfl) rfl (by omega) (by omega) (by simp; omega) ?_))
            intro g6 cp6 w6 hown6 hgrow6 hat6 hlt6
            have T6 := ((HT3.out.swap.ext' ((Ext.refl w3).alloc (.cells #[.int .i64 (elOf x k l)] 3))).addA (x := elOf x k l) HTL2.out hgrow6 (hat6.imp id (fun e => e.trans (by simp))) (by rw [List.map_take]; exact hown6)).swap
            have HT6 := Lib.hid T6; clear T6
            clear hgrow6 hat6 hown6
            go_wp2
            go_roundw
            case rel => exact ⟨l + 1, by omega, by go_num, by rw [rowF_take_succ HLX.out, rowF_take_succ HLX.out, HL1.out, HH1.out]; exact HT6.out⟩
            case measure => simp [intOf]; omega
        · have hlm : (rowAt x k).length ≤ l := by rw [HRX.out.row k hlt]; omega
          have hf1 : (rowF (bLoF x p) x k).take l = rowF (bLoF x p) x k := List.take_of_length_le (by rw [rowF_length]; omega)
          have hf2 : (rowF (bHiF x p) x k).take l = rowF (bHiF x p) x k := List.take_of_length_le (by rw [rowF_length]; omega)
          have hT := HT.out
          rw [hf1, hf2, ← HRW.out.1, ← HRW.out.2] at hT
          clear HT hf1 hf2 hlm
          obtain ⟨wi, rfl⟩ : ∃ wi : World, wi = wi0 := ⟨_, rfl⟩
          obtain ⟨la, lc, rfl⟩ := hT.ra.form
          obtain ⟨ha, hc, rfl⟩ := hT.rb.form
          have OL := Lib.hid (hT.ra.own (Nat.le_refl _))
          have OH := Lib.hid (hT.rb.own (Nat.le_refl _))
          have hsM := hT.ext.size
          have A1 := HA1.out.ext' hT.ext
          clear hT
          have hsz1 := A1.sz
          have cb := A1.box.cell 0 (by simp)
          have htk : (L.take k).length = k := by have := HLL.out.1; simp; omega
          have htk2 : (H.take k).length = k := by have := HLL.out.2; simp; omega
          have E2 := (Ext.refl wi).alloc (.cells #[.slice la (rowAt L k).length lc] 52)
          have A2 := A1.ext' E2
          have hown := A2.lo.own
          rw [htk] at hown
          have HOWN := Lib.hid hown; clear hown
          have HTK2 := Lib.hid htk2; clear htk2 htk
          have HA2 := Lib.hid A2; clear A2 A1
          go_upto_region 17 with fail
          go_cut [22] from 22 to 79 (fun s22 wx => s22 = .int .i64 k ∧ ∃ (lv' : Value) (rl' : List Value) (HL' : Nat), BndA ws (w2.heap.size + 1) L H (k + 1) k HL' HH wx lv' hv rl' rh ∧ w2.heap.size + 1 + 1 ≤ HL' ∧ wi.heap.size ≤ wx.heap.size ∧ Own wM.heap.size wi.heap.size wx (.slice ha (rowAt H k).length hc) (rowAt H k))
          case first =>
            go_wp2_with (at_builtin; go_loud (refine app1 _ rfl _ _ 22 52 rfl (.slice none 0 0) 24 Try.underlying22 info_ints rfl (w2.heap.size + 1 + 1) _ k rl rfl HOWN.out wi.heap.size 1 52 (.slice la (rowAt L k).length lc) rfl (Box.new _ _ _ rfl) rfl (by omega) (by omega) (by simp; omega) ?_))
            intro g cp w3 hown3 hgrow hat hlt3
            have hb3 := HA2.out.box.upd (Upd.of_grown hgrow) (fun e => by have := (HA2.out.lo.blk e).1; omega)
            have c3 := hb3.cell 0 (by simp)
            have f3 := hb3.free 0
            have hsE := E2.size
            have A3 := HA2.out.addLo (M := wM.heap.size) (by have := HLL.out.1; omega) ((OL.out.ext E2).mono (Nat.le_refl _) hsE) HA1.out.bl hHL hgrow (hat.imp id (fun e => e.trans (by simp))) hown3
            have OH3 := Lib.hid (((OH.out.ext E2).keepSpine HA2.out.lo.own hgrow).put_away ⟨w2.heap.size + 1, 0, none⟩ (.slice (some ⟨g, 0, none⟩) (k + 1) cp) (.inl (by have := HA1.out.sz; simp only; omega)))
            have hs3 := hgrow.size
            simp at hs3
            have HA3 := Lib.hid A3; clear A3
            have HB3 := Lib.hid hb3; clear hb3
            clear hgrow hat hown3
            go_wp2_with fail
            go_meet
            exact ⟨rfl, _, _, _, HA3.out, by omega, by simp [World.setCell]; omega, OH3.out⟩
          case rest =>
            obtain ⟨rfl, lv', rl', HL', hA4, hHL', hszi, hO4⟩ := hcut
            obtain ⟨wj, rfl⟩ : ∃ wj : World, wj = wc := ⟨_, rfl⟩
            have cb := hA4.box.cell 1 (by simp)
            have hsz5 := hA4.sz
            have E5 := (Ext.refl wj).alloc (.cells #[.slice ha (rowAt H k).length hc] 52)
            have A5 := hA4.ext' E5
            have hown := A5.hi.own
            rw [HTK2.out] at hown
            have HOWN5 := Lib.hid hown; clear hown
            have HO4 := Lib.hid hO4; clear hO4
            have HA5 := Lib.hid A5; clear A5
            have HA4 := Lib.hid hA4; clear hA4
            clear HA2 HOWN
            go_wp2_with (at_builtin; go_loud (refine app1 _ rfl _ _ 22 52 rfl (.slice none 0 0) 24 Try.underlying22 info_ints rfl (w2.heap.size + 1 + 1) _ k rh rfl HOWN5.out wj.heap.size 1 52 (.slice ha (rowAt H k).length hc) rfl (Box.new _ _ _ rfl) rfl (by omega) (by omega) (by simp; omega) ?_))
            intro g cp w3 hown3 hgrow hat hlt3
            have hb3 := HA5.out.box.upd (Upd.of_grown hgrow) (fun e => by have := (HA5.out.hi.blk e).1; omega)
            have c3 := hb3.cell 1 (by simp)
            have f3 := hb3.free 1
            have hsE := E5.size
            have A6 := HA5.out.addHi (M := wM.heap.size) (by have := HLL.out.2; omega) ((HO4.out.ext E5).mono (Nat.le_refl _) (Nat.le_trans hszi hsE)) HA1.out.bh hHH hgrow (hat.imp id (fun e => e.trans (by simp))) hown3
            have hs3 := hgrow.size
            simp at hs3
            have hmi := HA1.out.bh
            have HA6 := Lib.hid A6; clear A6
            have HB3 := Lib.hid hb3; clear hb3
            clear hgrow hat hown3
            go_wp2
            go_roundw
            case rel => exact ⟨k + 1, _, _, _, _, _, _, by omega, by go_num, HA6.out, hHL', by omega⟩
            case measure => simp [intOf]; omega
    · have hk' : k = n := by omega
      have e2 : L.take k = L := List.take_of_length_le (by have := HLL.out.1; omega)
      have e3 : H.take k = H := List.take_of_length_le (by have := HLL.out.2; omega)
      clear hk'
      have h1' := HA1.out.lo
      have h2' := HA1.out.hi
      rw [e2] at h1'
      rw [e3] at h2'
      clear e2 e3
      have hbl := HA1.out.bl
      have hbh := HA1.out.bh
      have OLO := Lib.hid (h1'.ownG (Nat.le_refl _) hbl)
      have OHI := Lib.hid (h2'.ownG (Nat.le_refl _) hbh)
      obtain ⟨la, lc, rfl, _, _, qq⟩ := h1'.ownG (Nat.le_refl _) hbl
      clear qq
      obtain ⟨ha, hc, rfl, _, _, qq⟩ := h2'.ownG (Nat.le_refl _) hbh
      clear qq h1' h2'
      have hxo := uX.trans HA1.out.ext
      have hszo := HA1.out.sz
      have br := bR.ext HA1.out.ext
      have k0 := HA1.out.box.cell 0 (by simp)
      have k1 := HA1.out.box.cell 1 (by simp)
      clear HA1
      have f0 := br.free 0
      have f1 := br.free 1
      have g0 := br.cell 0 (by simp)
      have g1 := br.cell 1 (by simp)
      have P2 := OLO.out.put2 (B := w.heap.size) (by omega) (.slice la L.length lc) (.slice ha H.length hc)
      have P3 := OHI.out.put2 (B := w.heap.size) (by omega) (.slice la L.length lc) (.slice ha H.length hc)
      have hs := put2_size wM w.heap.size (.slice la L.length lc) (.slice ha H.length hc)
      have t1 := Nat.le_of_eq hs.symm
      have HPP := Lib.hid (And.intro P2 P3); clear P2 P3 hs
      go_wp2
      refine bodyPost_ret (v := .agg #[.slice la L.length lc, .slice ha H.length hc]) (by simp [results, Try.results47, go_sem, g0, g1]) rfl ⟨_, rfl, ?_, hxo.put2 (Nat.le_refl _) _ _⟩
      exact ⟨_, _, rl, rh, rfl, HPP.out.1.mono (by omega) t1, HPP.out.2.mono (by omega) t1⟩
end Go.Proofs.Ytginndoggpfadaa
namespace Go.Proofs.Ytginndoggpfadaa
open Go.RowKit
open Fm

noncomputable def bndV (x p : List (List Int)) : Bd := if pubB x p = true then bndD x p else ⟨[], []⟩
theorem not_GB_nil' {v : Value} {r : List Value} {b : Nat} (h : GB v r [] b) : False := by
  rcases h with h | ⟨k, hk, _⟩
  · exact h.1 rfl
  · simp at hk
theorem bnd_all {x p : List (List Int)} (h : pubB x p = true) : mapG (lowF (atkT x p)) x = mapG (bLoF x p) x ∧ mapG (highF (atkT x p)) x = mapG (bHiF x p) x := by
  have rc := pub_rc h
  constructor
  · refine list_ext_rowAt (by rw [mapG_length, mapG_length]) (fun i hi => ?_)
    rw [mapG_length] at hi
    rw [rowAt_mapG hi, rowAt_mapG hi]
    refine list_ext_ix (by rw [rowF_length, rowF_length]) (fun j hj => ?_)
    rw [rowF_length] at hj
    rw [ix_rowF hj, ix_rowF hj]
    have hj' : j < (rowAt x 0).length := by rw [← rc.row i hi]; exact hj
    unfold lowF bLoF
    split
    · rfl
    · rename_i hp; exact (q_shown h hi hj' hp).1
  · refine list_ext_rowAt (by rw [mapG_length, mapG_length]) (fun i hi => ?_)
    rw [mapG_length] at hi
    rw [rowAt_mapG hi, rowAt_mapG hi]
    refine list_ext_ix (by rw [rowF_length, rowF_length]) (fun j hj => ?_)
    rw [rowF_length] at hj
    rw [ix_rowF hj, ix_rowF hj]
    have hj' : j < (rowAt x 0).length := by rw [← rc.row i hi]; exact hj
    unfold highF bHiF
    split
    · rfl
    · rename_i hp; exact (q_shown h hi hj' hp).2
theorem Upd.put2 {u w : World} {B : Nat} (h : Upd (fun b => b = B) u w) {B' : Nat} (e : B' = B) (x0 x1 : Value) : Upd (fun b => b = B) u (put2 w B' x0 x1) :=
  (h.setCell _ (fun _ => e)).setCell _ (fun _ => e)

set_option maxHeartbeats 1600000 in
theorem specImp_c (v1 : Value) (x : List (List Int)) (v2 : Value) (p : List (List Int)) (w : World) (h1 : Grid w v1 x) (h2 : Grid w v2 p) :
    Calls Try.prog 22 #[v1, v2] w fun e w' => ∃ v', e = .returned (.tuple #[v', .bool (pubB x p)]) ∧ BdN w.heap.size w'.heap.size w' v' (bndV x p) ∧ Ext w w' := by
  have H1 := Lib.hid h1; clear h1
  have H2 := Lib.hid h2; clear h2
  have u0 := (Ext.refl w).alloc (.cells #[.slice none 0 0, .slice none 0 0] 37)
  have b0 := Box.new w 37 #[.slice none 0 0, .slice none 0 0] rfl
  cases hq : pubB x p
  · have hV : bndV x p = ⟨[], []⟩ := by simp [bndV, hq]
    rw [hV]; clear hV
    have HQ := Lib.hid hq; clear hq
    go_enter Try.func22, Try.ntmps22
    go_wp2_with fail
    refine (qPattern_b false _ _ x p _ HQ.out (H1.out.ext u0) (H2.out.ext u0)).mono ?_
    rintro e w1 ⟨rfl, d1'⟩
    have d1 := d1'.ext
    have b1 := b0.ext d1
    have v1 := u0.trans d1
    have f0 := b1.free 0
    have f1 := b1.free 1
    have k0 := b1.cell 0 (by simp)
    have k1 := b1.cell 1 (by simp)
    go_wp2
    refine bodyPost_ret (v := .tuple #[.agg #[.slice none 0 0, .slice none 0 0], .bool false]) (by simp [results, Try.results22, go_sem, k0, k1]) rfl ⟨_, rfl, ⟨_, _, [], [], rfl, OwnG.nil, OwnG.nil⟩, ?_⟩
    first | exact v1 | exact v1.put2 (Nat.le_refl _) _ _
  · have hV : bndV x p = bndD x p := by simp [bndV, hq]
    rw [hV]; clear hV
    have HQ := Lib.hid hq; clear hq
    go_enter Try.func22, Try.ntmps22
    go_wp2_with fail
    refine (qPattern_b true _ _ x p _ HQ.out (H1.out.ext u0) (H2.out.ext u0)).mono ?_
    rintro e w1 ⟨rfl, d1'⟩
    have d1 := d1'.ext
    have b1 := b0.ext d1
    have v1 := u0.trans d1
    go_wp2_with fail
    refine (qBounds_c _ x _ p _ (H1.out.ext v1) (H2.out.ext v1) HQ.out).mono ?_
    rintro e w2 ⟨v2, rfl, o2, u2⟩
    have O2 := Lib.hid o2
    obtain ⟨a0, c0, a1, c1, rfl, _⟩ := o2.read.form
    clear o2
    have b2 := b1.ext u2
    have f0 := b2.free 0
    have f1 := b2.free 1
    have k0 := b2.cell 0 (by simp)
    have k1 := b2.cell 1 (by simp)
    have hs1 := d1.size
    go_wp2
    refine bodyPost_ret (v := .tuple #[.agg #[.slice a0 (bndD x p).lo.length c0, .slice a1 (bndD x p).hi.length c1], .bool true]) (by simp [results, Try.results22, go_sem, k0, k1]) rfl ⟨_, rfl, ?_, (v1.trans u2).put2 (Nat.le_refl _) _ _⟩
    have hs := put2_size w2 w.heap.size (.slice a0 (bndD x p).lo.length c0) (.slice a1 (bndD x p).hi.length c1)
    have hlt : w.heap.size < w1.heap.size := by first | (simp; done) | (simp at hs1; omega)
    exact (O2.out.away (Upd.put2 (Upd.refl w2) rfl _ _) (fun b hb => .inl (by subst hb; exact hlt))).mono (Nat.le_of_lt hlt) (Nat.le_of_eq hs.symm)
set_option maxHeartbeats 1600000 in
theorem implImp_c (v1 : Value) (x : List (List Int)) (v2 : Value) (p : List (List Int)) (w : World) (h1 : Grid w v1 x) (h2 : Grid w v2 p) :
    Calls Try.prog 23 #[v1, v2] w fun e w' => ∃ v', e = .returned (.tuple #[v', .bool (pubB x p)]) ∧ BdO w.heap.size w'.heap.size w' v' (bndV x p) ∧ Ext w w' := by
  have H1 := Lib.hid h1
  have H2 := Lib.hid h2; clear h2
  obtain ⟨ax, cx, rfl, x1, x2, x3⟩ := h1
  clear x3
  have u0 := (Ext.refl w).alloc (.cells #[.slice none 0 0, .slice none 0 0] 37)
  have b0 := Box.new w 37 #[.slice none 0 0, .slice none 0 0] rfl
  cases hq : pubB x p
  · have hV : bndV x p = ⟨[], []⟩ := by simp [bndV, hq]
    rw [hV]; clear hV
    have HQ := Lib.hid hq; clear hq
    go_enter Try.func23, Try.ntmps23
    go_wp2_with fail
    refine (areSuppressed_b false _ _ x p _ HQ.out (H1.out.ext u0) (H2.out.ext u0)).mono ?_
    rintro e w' ⟨rfl, rfl⟩
    have f0 := b0.free 0
    have f1 := b0.free 1
    have k0 := b0.cell 0 (by simp)
    have k1 := b0.cell 1 (by simp)
    go_wp2
    refine bodyPost_ret (v := .tuple #[.agg #[.slice none 0 0, .slice none 0 0], .bool false]) (by simp [results, Try.results23, go_sem, k0, k1]) rfl ⟨_, rfl, ⟨_, _, [], [], rfl, OwnG.nil, OwnG.nil, fun b h _ => not_GB_nil' h⟩, ?_⟩
    first | exact u0 | exact u0.put2 (Nat.le_refl _) _ _
  · have hV : bndV x p = bndD x p := by simp [bndV, hq]
    rw [hV]; clear hV
    have hba := bnd_all hq
    have HBA := Lib.hid hba; clear hba
    have HQ := Lib.hid hq; clear hq
    have HRX := Lib.hid (pub_rc HQ.out)
    go_enter Try.func23, Try.ntmps23
    go_wp2_with fail
    refine (areSuppressed_b true _ _ x p _ HQ.out (H1.out.ext u0) (H2.out.ext u0)).mono ?_
    rintro e w' ⟨rfl, rfl⟩
    go_wp2_with fail
    refine (attackNetwork_c _ x _ p _ (H1.out.ext u0) (H2.out.ext u0) HQ.out).mono ?_
    rintro e w2 ⟨v2, rfl, ot, u2⟩
    have hr := ot.read
    clear ot
    obtain ⟨a0, c0, a1, c1, a2, c2, a3, c3, rfl⟩ := atk_form HQ.out hr
    have HR := Lib.hid hr; clear hr
    have v2' := u0.trans u2
    go_wp2_with fail
    refine (allRanges_c (atkT x p) x a0 a1 a2 a3 ax c0 c1 c2 c3 cx _ _ _ (atk_rl x p) (atk_cl x p) HR.out (H1.out.ext v2') (atk_ok HQ.out) HRX.out (atk_flow HQ.out)).mono ?_
    rw [HBA.out.1, HBA.out.2]
    rintro e w3 ⟨y1, r1, y2, r2, mid, rfl, m1, m2, o1, o2, u3⟩
    have O1 := Lib.hid o1
    have O2 := Lib.hid o2
    obtain ⟨e1, g1, rfl, _, _, qq⟩ := o1
    clear qq
    obtain ⟨e2, g2, rfl, _, _, qq⟩ := o2
    clear qq
    have v3 := v2'.trans u3
    have b3 := (b0.ext u2).ext u3
    have f0 := b3.free 0
    have f1 := b3.free 1
    have k0 := b3.cell 0 (by simp)
    have k1 := b3.cell 1 (by simp)
    have hs1 : w.heap.size + 1 ≤ w2.heap.size := by have := u2.size; simp at this; omega
    obtain ⟨LO, hLO⟩ : ∃ L, mapG (bLoF x p) x = L := ⟨_, rfl⟩
    obtain ⟨HI, hHI⟩ : ∃ L, mapG (bHiF x p) x = L := ⟨_, rfl⟩
    have HD : Hid (bndD x p = ⟨LO, HI⟩) := Lib.hid (by unfold bndD; rw [hLO, hHI])
    rw [hLO] at O1 ⊢
    rw [hHI] at O2 ⊢
    clear hLO hHI
    have P1 := O1.out.put2 (B := w.heap.size) (by omega) (.slice e1 LO.length g1) (.slice e2 HI.length g2)
    have P2 := O2.out.put2 (B := w.heap.size) (by omega) (.slice e1 LO.length g1) (.slice e2 HI.length g2)
    have hs := put2_size w3 w.heap.size (.slice e1 LO.length g1) (.slice e2 HI.length g2)
    have HPP := Lib.hid (And.intro P1 (And.intro P2 hs)); clear P1 P2 hs
    go_wp2
    refine bodyPost_ret (v := .tuple #[.agg #[.slice e1 LO.length g1, .slice e2 HI.length g2], .bool true]) (by simp [results, Try.results23, go_sem, k0, k1]) rfl ⟨_, rfl, ?_, v3.put2 (Nat.le_refl _) _ _⟩
    rw [HD.out]
    exact BdL.o ⟨_, _, r1, r2, w2.heap.size, mid, w3.heap.size, rfl, by omega, m1, m2, Nat.le_of_eq HPP.out.2.2.symm, HPP.out.1, HPP.out.2.1⟩
end Go.Proofs.Ytginndoggpfadaa
