/- A greatest filling and a flow if there is one, the spec's: tFilled, tFeasible. -/
import Derived.Test.YtodnkahnbidgaaaSstart
import Derived.Test.YtodnkahnbidgaaaTrOk
namespace Go.Proofs.Ytodnkahnbidgaaa
open Go.RowKit
open Fm

open Classical in
/-- whether there is a flow -/
noncomputable def feasB (T : Tr) : Bool := decide (∃ x, Flow (NetT T) x)
theorem feasB_true {T : Tr} : feasB T = true ↔ ∃ x, Flow (NetT T) x := by simp [feasB]
theorem feasB_false {T : Tr} : feasB T = false ↔ ¬ ∃ x, Flow (NetT T) x := by simp [feasB]
theorem feasB_of {T : Tr} (h : ∃ x, Flow (NetT T) x) : feasB T = true := feasB_true.2 h
theorem feasB_not {T : Tr} (h : ¬ ∃ x, Flow (NetT T) x) : feasB T = false := feasB_false.2 h
theorem SFill.sum {T : Tr} {X : List (List Int)} {rs cs : List Int} (h : SFill T X rs cs) : rs.sum = S (NetT T).n (NetT T).R - (NetT T).total (elOf X) ∧ 0 ≤ rs.sum := by
  rw [sum_S, h.rl]
  refine ⟨?_, S_nonneg (fun i hi => (h.row i hi).2)⟩
  rw [S_congr (fun i hi => (h.row i hi).1), S_sub]
  rfl
theorem SFill.feas {T : Tr} {X : List (List Int)} {rs cs : List Int} (h : SFill T X rs cs) {A B : Nat → Bool} (hc : Cert (NetT T) (elOf X) A B) (he : T.rows.sum = T.cols.sum) : feasB T = decide (rs.sum ≤ 0) := by
  have es : S (NetT T).n (NetT T).R = S (NetT T).m (NetT T).C := by
    rw [sum_S, sum_S] at he; exact he
  have hi := hc.flow_iff es
  have hs := h.sum
  by_cases h0 : rs.sum ≤ 0
  · rw [feasB_of (hi.2 (by omega))]; simp [h0]
  · rw [feasB_not (fun hx => by have := hi.1 hx; omega)]; simp [h0]
theorem SFill.sumOk {T : Tr} {X : List (List Int)} {rs cs : List Int} (h : SFill T X rs cs) (ho : TrOk T) : SumOk rs :=
  SumOk.of_bound (B := 100000) (n := 8) (by omega) (fun x hx => by
    obtain ⟨i, hi, rfl⟩ := List.getElem_of_mem hx
    have hi' : i < T.rows.length := by rw [← h.rl]; exact hi
    have := h.bounds ho hi' (j := 0) (by have := ho.dims; omega)
    rw [ix_eq hi] at this; omega) (by rw [h.rl]; exact ho.dims.2.1) (by omega)
/-- what tFilled hands back: a greatest filling, or that there is none -/
def FilledPost (T : Tr) (w : World) (e : Ending) (w' : World) : Prop :=
  ∃ (lo fb mid hi : Nat) (u : World) (F : FV), Ext w w' ∧
    ((e = .returned (.tuple #[.pointer (some ⟨fb, 0, none⟩), .bool true]) ∧ ∃ (X : List (List Int)) (rs cs : List Int), FillS lo fb mid hi u w' F T X rs cs ∧ SFill T X rs cs ∧ ∃ A B, Cert (NetT T) (elOf X) A B) ∨
     (e = .returned (.tuple #[.pointer (some ⟨fb, 0, none⟩), .bool false]) ∧ ¬ ∃ x, Fits (NetT T) x))

theorem tSum_b (b : Int) (v : Value) (xs : List Int) (w : World) (hb : xs.sum = b) (h : Ints w v xs) (hs : SumOk xs) : Calls Try.prog 66 #[v] w fun e w' => e = .returned (.int .i64 b) ∧ w' = w := by
  subst hb; exact tSum_c v xs w h hs
set_option maxRecDepth 100000 in
set_option maxHeartbeats 6400000 in
theorem tFilled_c (v : Value) (T : Tr) (w : World) (h : TrR w v T) (ho : TrOk T) : Calls Try.prog 92 #[v] w (FilledPost T w) := by
  have H := Lib.hid h
  have HO := Lib.hid ho; clear ho
  obtain ⟨a0, c0, a1, c1, a2, c2, a3, c3, rfl, n0, n1, n2, n3⟩ := h.form
  clear h
  have u0 := (Ext.refl w).alloc (.cells #[.slice a0 T.rows.length c0, .slice a1 T.cols.length c1, .slice a2 T.lo.length c2, .slice a3 T.hi.length c3] 38)
  have b0 := Box.new w 38 #[.slice a0 T.rows.length c0, .slice a1 T.cols.length c1, .slice a2 T.lo.length c2, .slice a3 T.hi.length c3] rfl
  have k0 := b0.cell 0 (by simp)
  have k1 := b0.cell 1 (by simp)
  have k2 := b0.cell 2 (by simp)
  have k3 := b0.cell 3 (by simp)
  obtain ⟨ws, hws⟩ : ∃ ws, w.alloc (.cells #[.slice a0 T.rows.length c0, .slice a1 T.cols.length c1, .slice a2 T.lo.length c2, .slice a3 T.hi.length c3] 38) = ws := ⟨_, rfl⟩
  rw [hws] at u0 b0 k0 k1 k2 k3
  have HWS := Lib.hid hws; clear hws
  obtain ⟨sb, hsb⟩ : ∃ sb, startB T = sb := ⟨_, rfl⟩
  have HSB := Lib.hid hsb; clear hsb
  go_enter Try.func92, Try.ntmps92
  go_wp2_with fail
  rw [HWS.out]
  refine (tStart_c _ T _ (H.out.ext u0) HO.out).mono ?_
  rw [HSB.out]
  rintro e w1 ⟨fb, mid, F, rfl, hF, u1⟩
  have HF := Lib.hid hF; clear hF
  cases sb
  · have hno := start_no HO.out HSB.out
    have HNO := Lib.hid hno; clear hno
    go_wp2
    go_ret2
    exact ⟨0, fb, mid, 0, ws, F, u0.trans u1, .inr ⟨rfl, HNO.out⟩⟩
  · have hst := start_yes HO.out HSB.out
    have HST := Lib.hid hst; clear hst
    obtain ⟨hi, hhi⟩ : ∃ hi, w1.heap.size = hi := ⟨_, rfl⟩
    have hf := HF.out
    rw [hhi] at hf
    have HF1 := Lib.hid hf; clear hf hhi
    obtain ⟨lo, hlo⟩ : ∃ lo, ws.heap.size + 1 = lo := ⟨_, rfl⟩
    have hf := HF1.out
    rw [hlo] at hf
    have HF2 := Lib.hid hf; clear hf hlo HF1
    go_wp2
    go_loopg [14] (rleft T T.rows.length).sum.toNat (fun gk _ wr => ∃ (X : List (List Int)) (rs cs : List Int), gk = rs.sum.toNat ∧ FillS lo fb mid hi ws wr F T X rs cs ∧ SFill T X rs cs)
    case atStart => exact ⟨_, _, _, rfl, HF2.out, HST.out⟩
    case round =>
      obtain ⟨X, rs, cs, hgk, hF, hS⟩ := hrel
      obtain ⟨wi, rfl⟩ : ∃ wi : World, wi = wr := ⟨_, rfl⟩
      have HF3 := Lib.hid hF; clear hF
      have HS3 := Lib.hid hS; clear hS
      have HGK := Lib.hid hgk; clear hgk
      go_wp2_with fail
      refine (aug_c lo fb mid hi ws _ F T X rs cs HF3.out HO.out HS3.out).mono ?_
      rintro e w2 ⟨hp, hU⟩
      rcases hp with ⟨rfl, X', rs', cs', f1, f2, f3⟩ | ⟨rfl, f1, f2⟩
      · have F1 := Lib.hid f1; clear f1
        have F2 := Lib.hid f2; clear f2
        go_wp2
        go_roundg rs'.sum.toNat
        case rel => exact ⟨X', rs', cs', rfl, F1.out, F2.out⟩
        case measure => have h1 := F2.out.sum; have h2 := HGK.out; omega
      · have F1 := Lib.hid f1; clear f1
        have F2 := Lib.hid f2; clear f2
        go_wp2
        go_ret2
        exact ⟨lo, fb, mid, hi, ws, F, u0.trans F1.out.ext, .inl ⟨rfl, X, rs, cs, F1.out, HS3.out, F2.out⟩⟩

set_option maxRecDepth 100000 in
set_option maxHeartbeats 6400000 in
theorem tFeasible_c (v : Value) (T : Tr) (w : World) (h : TrR w v T) (ho : TrOk T) : Calls Try.prog 68 #[v] w fun e w' => ∃ v' : Value, e = .returned (.tuple #[v', .bool (feasB T)]) ∧ Ext w w' := by
  have H := Lib.hid h
  have HO := Lib.hid ho; clear ho
  obtain ⟨a0, c0, a1, c1, a2, c2, a3, c3, rfl, n0, n1, n2, n3⟩ := h.form
  clear h
  have u0 := (Ext.refl w).alloc (.cells #[.slice a0 T.rows.length c0, .slice a1 T.cols.length c1, .slice a2 T.lo.length c2, .slice a3 T.hi.length c3] 38)
  have b0 := Box.new w 38 #[.slice a0 T.rows.length c0, .slice a1 T.cols.length c1, .slice a2 T.lo.length c2, .slice a3 T.hi.length c3] rfl
  have k0 := b0.cell 0 (by simp)
  have k1 := b0.cell 1 (by simp)
  have k2 := b0.cell 2 (by simp)
  have k3 := b0.cell 3 (by simp)
  obtain ⟨SR, hSR⟩ : ∃ X, T.rows.sum = X := ⟨_, rfl⟩
  obtain ⟨SC, hSC⟩ : ∃ X, T.cols.sum = X := ⟨_, rfl⟩
  have HSR := Lib.hid hSR; clear hSR
  have HSC := Lib.hid hSC; clear hSC
  by_cases hs : SR = SC
  case neg =>
    have hb : (SR != SC) = true := by simp [hs]
    have HNO : Hid (feasB T = false) := Lib.hid (feasB_not (by
      rintro ⟨x, hx⟩
      apply hs
      rw [← HSR.out, ← HSC.out, sum_S, sum_S]; exact hx.eq_sums))
    clear hs
    go_enter Try.func68, Try.ntmps68
    go_wp2_with fail
    go_quiet (first
      | (go_at_call 66; exact Calls.quiet_of_same (tSum_b SR _ T.rows _ HSR.out (H.out.f0.ext (u0.drewN _)) HO.out.rowsSum.1))
      | (go_at_call 66; exact Calls.quiet_of_same (tSum_b SC _ T.cols _ HSC.out (H.out.f1.ext (u0.drewN _)) HO.out.colsSum.1)))
    go_wp2
    go_ret2
    exact ⟨_, by rw [HNO.out] <;> rfl, u0.drewN _⟩
  have hb : (SR != SC) = false := by simp [hs]
  have HEQ : Hid (T.rows.sum = T.cols.sum) := Lib.hid (by rw [HSR.out, HSC.out]; exact hs)
  clear hs
  go_enter Try.func68, Try.ntmps68
  go_wp2_with fail
  go_quiet (first
    | (go_at_call 66; exact Calls.quiet_of_same (tSum_b SR _ T.rows _ HSR.out (H.out.f0.ext (u0.drewN _)) HO.out.rowsSum.1))
    | (go_at_call 66; exact Calls.quiet_of_same (tSum_b SC _ T.cols _ HSC.out (H.out.f1.ext (u0.drewN _)) HO.out.colsSum.1)))
  have x1 := u0.drewN nq
  go_wp2_with fail
  refine (tFilled_c _ T _ (H.out.ext x1) HO.out).mono ?_
  rintro e w1 ⟨lo, fb, mid, hi, u, F, u1, hp⟩
  have x2 := x1.trans u1
  rcases hp with ⟨rfl, X, rs, cs, f1, f2, A, B, f3⟩ | ⟨rfl, f1⟩
  · have hfe := f2.feas f3 HEQ.out
    have SO := Lib.hid (f2.sumOk HO.out)
    have b1 := f1.box
    have y4 := b1.cell 4 (by simp)
    have y5 := b1.cell 5 (by simp)
    have hI : Ints w1 (.slice F.ar T.rows.length F.cr) rs := ⟨F.ar, F.cr, by rw [f2.rl], by rw [f2.rl]; exact f1.cap.2.2.1, f1.cap.2.2.2.1, f1.gr.ints⟩
    have HI := Lib.hid hI; clear hI
    have hso := SO.out rs.length
    rw [List.take_length] at hso
    obtain ⟨Z, hZ⟩ : ∃ Z, rs.sum = Z := ⟨_, rfl⟩
    rw [hZ] at hfe hso
    have HZ := Lib.hid hZ; clear hZ
    clear f1 f2 f3 b1
    by_cases hz : Z ≤ 0
    · have HFE : Hid (feasB T = true) := Lib.hid (by rw [hfe]; simp [hz])
      clear hfe
      go_wp2_with fail
      refine (tSum_b Z _ rs _ HZ.out HI.out SO.out).mono ?_
      rintro e w1 ⟨rfl, rfl⟩
      go_wp2
      go_ret2
      exact ⟨_, by rw [HFE.out] <;> rfl, x2⟩
    · have HFE : Hid (feasB T = false) := Lib.hid (by rw [hfe]; simp [hz])
      clear hfe
      go_wp2_with fail
      refine (tSum_b Z _ rs _ HZ.out HI.out SO.out).mono ?_
      rintro e w1 ⟨rfl, rfl⟩
      go_wp2
      go_ret2
      exact ⟨_, by rw [HFE.out] <;> rfl, x2⟩
  · have HFE : Hid (feasB T = false) := Lib.hid (feasB_not (by rintro ⟨x, hx⟩; exact f1 ⟨x, hx.fits⟩))
    clear f1
    go_wp2
    go_ret2
    exact ⟨_, by rw [HFE.out] <;> rfl, x2⟩
theorem tFeasible_b (b : Bool) (v : Value) (T : Tr) (w : World) (hb : feasB T = b) (h : TrR w v T) (ho : TrOk T) : Calls Try.prog 68 #[v] w fun e w' => ∃ v' : Value, e = .returned (.tuple #[v', .bool b]) ∧ Ext w w' := by
  subst hb; exact tFeasible_c v T w h ho
end Go.Proofs.Ytodnkahnbidgaaa
