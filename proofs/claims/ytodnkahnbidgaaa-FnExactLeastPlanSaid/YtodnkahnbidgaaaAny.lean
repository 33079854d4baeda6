/- A flow if there is one, the program's: anyFlow. -/
import Derived.Test.YtodnkahnbidgaaaFillW
import Derived.Test.YtodnkahnbidgaaaEqual
import Derived.Lib.SliceRun
namespace Go.Proofs.Ytodnkahnbidgaaa
open Go.RowKit
open Fm

theorem rows_eq_iff {T : Tr} {X : List (List Int)} (h : Rc T.rows.length T.cols.length X) : rowS X = T.rows ↔ ∀ i, i < T.rows.length → S T.cols.length (elOf X i) = ix T.rows i := by
  constructor
  · intro e i hi
    rw [← h.rowsum hi, ← ix_rowS (by rw [h.len]; exact hi), e]
  · intro e
    refine list_ext_ix (by rw [rowS_length, h.len]) (fun i hi => ?_)
    rw [rowS_length] at hi
    rw [ix_rowS hi]
    rw [h.len] at hi
    rw [h.rowsum hi, e i hi]
/-- a greatest filling that fills the rows is a flow; else there is none -/
theorem cert_flow {T : Tr} {X : List (List Int)} {A B : Nat → Bool} (h : Rc T.rows.length T.cols.length X) (hc : Cert (NetT T) (elOf X) A B) (he : T.rows.sum = T.cols.sum) :
    (rowS X = T.rows → Flow (NetT T) (elOf X)) ∧ (rowS X ≠ T.rows → ¬ ∃ x, Flow (NetT T) x) := by
  have es : S (NetT T).n (NetT T).R = S (NetT T).m (NetT T).C := by
    rw [sum_S, sum_S] at he; exact he
  refine ⟨fun e => hc.fits.flow es ?_, fun e hx => e ?_⟩
  · have := (rows_eq_iff h).1 e
    exact S_congr (fun i hi => this i hi)
  · have h1 := (hc.flow_iff es).1 hx
    have h2 := hc.fits.flow es h1
    exact (rows_eq_iff h).2 (fun i hi => h2.row i hi)
theorem no_flow_sums {T : Tr} (he : T.rows.sum ≠ T.cols.sum) : ¬ ∃ x, Flow (NetT T) x := by
  rintro ⟨x, hx⟩
  apply he
  rw [sum_S, sum_S]; exact hx.eq_sums

theorem total_b (b : Int) (v : Value) (xs : List Int) (w : World) (hb : xs.sum = b) (h : Ints w v xs) (hs : SumOk xs) : Calls Try.prog 95 #[v] w fun e w' => e = .returned (.int .i64 b) ∧ w' = w := by
  subst hb; exact total_c v xs w h hs
set_option maxRecDepth 100000 in
set_option maxHeartbeats 3200000 in
theorem anyFlow_c (v : Value) (T : Tr) (w : World) (h : TrR w v T) (ho : TrOk T) :
    Calls Try.prog 78 #[v] w fun e w' => ∃ v' : Value, e = .returned v' ∧ Ext w w' ∧
      ((v' = .slice none 0 0 ∧ ¬ ∃ x, Flow (NetT T) x) ∨ ∃ (rvs : List Value) (X : List (List Int)) (b o cap : Nat), v' = .slice (some ⟨b, o, none⟩) T.rows.length cap ∧ OwnG w.heap.size w'.heap.size w' v' rvs X ∧ Rc T.rows.length T.cols.length X ∧ Flow (NetT T) (elOf X)) := by
  have H := Lib.hid h
  have HO := Lib.hid ho; clear ho
  obtain ⟨a0, c0, a1, c1, a2, c2, a3, c3, rfl, n0, n1, n2, n3⟩ := h.form
  clear h
  have u0 := (Ext.refl w).alloc (.cells #[.slice a0 T.rows.length c0, .slice a1 T.cols.length c1, .slice a2 T.lo.length c2, .slice a3 T.hi.length c3] 38)
  have b0 := Box.new w 38 #[.slice a0 T.rows.length c0, .slice a1 T.cols.length c1, .slice a2 T.lo.length c2, .slice a3 T.hi.length c3] rfl
  have k0 := b0.cell 0 (by simp)
  have k1 := b0.cell 1 (by simp)
  have k2 := b0.cell 2 (by simp)
  have k3 := b0.cell 3 (by simp)
  obtain ⟨SR, hSR⟩ : ∃ X, T.rows.sum = X := ⟨_, rfl⟩
  obtain ⟨SC, hSC⟩ : ∃ X, T.cols.sum = X := ⟨_, rfl⟩
  have HSR := Lib.hid hSR; clear hSR
  have HSC := Lib.hid hSC; clear hSC
  by_cases hs : SR = SC
  case neg =>
    have hb : (SR != SC) = true := by simp [hs]
    have HNO := Lib.hid (no_flow_sums (T := T) (by rw [HSR.out, HSC.out]; exact hs))
    clear hs
    go_enter Try.func78, Try.ntmps78
    go_wp2_with fail
    go_quiet (first
      | (go_at_call 95; exact Calls.quiet_of_same (total_b SR _ T.rows _ HSR.out (H.out.f0.ext (u0.drewN _)) HO.out.rowsSum.1))
      | (go_at_call 95; exact Calls.quiet_of_same (total_b SC _ T.cols _ HSC.out (H.out.f1.ext (u0.drewN _)) HO.out.colsSum.1)))
    go_wp2
    go_ret
    exact ⟨_, rfl, u0.drewN _, .inl ⟨rfl, HNO.out⟩⟩
  have hb : (SR != SC) = false := by simp [hs]
  have HEQ : Hid (T.rows.sum = T.cols.sum) := Lib.hid (by rw [HSR.out, HSC.out]; exact hs)
  clear hs
  go_enter Try.func78, Try.ntmps78
  go_wp2_with fail
  go_quiet (first
    | (go_at_call 95; exact Calls.quiet_of_same (total_b SR _ T.rows _ HSR.out (H.out.f0.ext (u0.drewN _)) HO.out.rowsSum.1))
    | (go_at_call 95; exact Calls.quiet_of_same (total_b SC _ T.cols _ HSC.out (H.out.f1.ext (u0.drewN _)) HO.out.colsSum.1)))
  have b1 := b0.drewN nq
  have x1 := u0.drewN nq
  have hd := HO.out.dims
  have hn1 := hd.1
  clear hd
  go_wp2_with fail
  refine (fill_c _ T _ (H.out.ext x1) HO.out).mono ?_
  rintro e w1 ⟨v1, rfl, u1, hv⟩
  have x2 := x1.trans u1
  have b2 := b1.ext u1
  have y0 := b2.cell 0 (by simp)
  have q22 : ∀ (w : World) (a : Option Addr) (n c : Nat), (binOp .eql 22 (.slice a n c) (.slice none 0 0)).run Try.prog w = .ok (.bool a.isNone) w := fun w a n c => Go.Lib.run_eql_slice_nil w _ _ a n c 0 0 Try.underlying22
  rcases hv with ⟨rfl, hno⟩ | ⟨rvs, X, oX, rcX, A, B, hce⟩
  · have HNO : Hid (¬ ∃ x, Flow (NetT T) x) := Lib.hid (by rintro ⟨x, hx⟩; exact hno ⟨x, hx.fits⟩)
    clear hno
    go_wp2_with fail
    go_region
    go_wp2
    go_ret
    exact ⟨_, rfl, x2.drewN _, .inl ⟨rfl, HNO.out⟩⟩
  · have hcf := cert_flow rcX hce HEQ.out
    have hwi : Within T X := ⟨rcX.len, fun i hi => ⟨rcX.row i hi, fun j hj => ⟨hce.fits.lo i j hi hj, hce.fits.hi i j hi hj⟩⟩⟩
    have HTX := Lib.hid (hwi.tame HO.out)
    have OX := Lib.hid oX
    have RCX := Lib.hid rcX
    obtain ⟨ao, cap, rfl, p1, p2, oXA⟩ := oX
    obtain ⟨b, o, rfl, _⟩ := oXA.at_ (k := 0) (by rw [rcX.len]; exact hn1)
    clear oXA hwi hce
    have hGX : Grid w1 (.slice (some ⟨b, o, none⟩) X.length cap) X := OX.out.grid
    have hxl := rcX.len
    rw [hxl] at hGX p1 OX ⊢
    clear hxl rcX
    have HGX := Lib.hid hGX; clear hGX
    have HR0 := Lib.hid (H.out.f0.ext x2)
    obtain ⟨RS, hRS⟩ : ∃ RS, rowS X = RS := ⟨_, rfl⟩
    have hrsl : RS.length = T.rows.length := by rw [← hRS, rowS_length, RCX.out.len]
    have HRSL := Lib.hid hrsl; clear hrsl
    by_cases he : RS = T.rows
    · have HFL := Lib.hid (hcf.1 (by rw [hRS]; exact he))
      have HDE : Hid (decide (RS = T.rows) = true) := Lib.hid (by simp [he])
      have HRS := Lib.hid hRS
      clear hRS he hcf
      go_wp2_with fail
      first
        | (go_region_with (first
            | (go_at_call 73; refine (rowSums_c _ X _ (HGX.out.ext (Ext.refl _).drew) HTX.out).mono ?_; rw [HRS.out]; rintro e w5 ⟨x5, rfl, o5, u5⟩; have O5 := Lib.hid o5; obtain ⟨a5_, c5_, rfl, _, _, _⟩ := o5; have y1 := Ext.cell u5 y0)
            | (go_at_call 97; refine (equalI_b true _ _ RS T.rows _ HDE.out O5.out.ints ((HR0.out.ext (Ext.refl _).drew).ext u5)).mono ?_; rintro e w6 ⟨rfl, d6⟩)))
        | fail
      all_goals go_wp2
      all_goals go_ret
      all_goals
        have UU := ((Ext.refl w1).drew.trans u5).trans (Drew.ext d6)
        exact ⟨.slice (some ⟨b, o, none⟩) T.rows.length cap, rfl, x2.trans UU, .inr ⟨rvs, X, b, o, cap, rfl, (OX.out.ext UU).mono x1.size UU.size, RCX.out, HFL.out⟩⟩
    · have HNF := Lib.hid (hcf.2 (by rw [hRS]; exact he))
      have HDE : Hid (decide (RS = T.rows) = false) := Lib.hid (by simp [he])
      have HRS := Lib.hid hRS
      clear hRS he hcf
      go_wp2_with fail
      first
        | (go_region_with (first
            | (go_at_call 73; refine (rowSums_c _ X _ (HGX.out.ext (Ext.refl _).drew) HTX.out).mono ?_; rw [HRS.out]; rintro e w5 ⟨x5, rfl, o5, u5⟩; have O5 := Lib.hid o5; obtain ⟨a5_, c5_, rfl, _, _, _⟩ := o5; have y1 := Ext.cell u5 y0)
            | (go_at_call 97; refine (equalI_b false _ _ RS T.rows _ HDE.out O5.out.ints ((HR0.out.ext (Ext.refl _).drew).ext u5)).mono ?_; rintro e w6 ⟨rfl, d6⟩)))
        | fail
      all_goals go_wp2
      all_goals go_ret
      all_goals exact ⟨_, rfl, (x2.drew.trans u5).trans (Drew.ext d6), .inl ⟨rfl, HNF.out⟩⟩
end Go.Proofs.Ytodnkahnbidgaaa
