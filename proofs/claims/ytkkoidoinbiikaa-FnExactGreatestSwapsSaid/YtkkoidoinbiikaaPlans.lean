/- IsSwapPlan, the spec's and the program's. -/
import Derived.Test.YtkkoidoinbiikaaCan
import Derived.Test.YtkkoidoinbiikaaPrs
import Derived.BigRegion
namespace Go.Proofs.Ytkkoidoinbiikaa
open Go.RowKit

/-- the indices in the first k pairs -/
def usedTo (ps : List (List Int)) (k : Nat) : List Int := (ps.take k).flatten
theorem usedTo_zero (ps : List (List Int)) : usedTo ps 0 = [] := by simp [usedTo]
theorem usedTo_succ {ps : List (List Int)} {k : Nat} (h : k < ps.length) : usedTo ps (k + 1) = usedTo ps k ++ rowAt ps k := by
  simp [usedTo, take_succ_row h]
theorem hasI_append (xs ys : List Int) (n : Int) : hasI (xs ++ ys) n = (hasI xs n || hasI ys n) := by simp [hasI]
theorem pair_eq {n : Nat} {r : List Int} (h : PrP n r) : ∃ i j : Nat, r = [(i : Int), (j : Int)] ∧ i < j ∧ j < n := by
  obtain ⟨h1, h2, h3⟩ := h
  match r, h1 with
  | [a, b], _ =>
    have e0 : ix [a, b] 0 = a := rfl
    have e1 : ix [a, b] 1 = b := rfl
    rw [e0, e1] at h2
    rw [e1] at h3
    refine ⟨a.toNat, b.toNat, ?_, by omega, by omega⟩
    have a1 : (a.toNat : Int) = a := by omega
    have b1 : (b.toNat : Int) = b := by omega
    rw [a1, b1]
theorem usedTo_len {n : Nat} {ps : List (List Int)} (h : PrsP n ps) : ∀ k, k ≤ ps.length → (usedTo ps k).length = 2 * k := by
  intro k
  induction k with
  | zero => intro _; simp [usedTo_zero]
  | succ k ih =>
    intro hk
    rw [usedTo_succ (by omega), List.length_append, ih (by omega), (h.2 k (by omega)).1]
    omega
/-- the k-th pair can be swapped, and neither index was met before -/
def StepP (s : List Vr) (l : List Pe) (vars : List Int) (ps : List (List Int)) (k : Nat) : Prop :=
  canB s (peAt l (ix (rowAt ps k) 0).toNat) (peAt l (ix (rowAt ps k) 1).toNat) vars = true ∧ hasI (usedTo ps k) (ix (rowAt ps k) 0) = false ∧ hasI (usedTo ps k) (ix (rowAt ps k) 1) = false
def PlanP (s : List Vr) (l : List Pe) (vars : List Int) (ps : List (List Int)) : Prop := PrsP l.length ps ∧ ∀ k, k < ps.length → StepP s l vars ps k
noncomputable def ipB (s : List Vr) (l : List Pe) (vars : List Int) (_ : List (List Int)) : Bool := inB s l vars
open Classical in
noncomputable def ipV (s : List Vr) (l : List Pe) (vars : List Int) (ps : List (List Int)) : Bool := inB s l vars && decide (PlanP s l vars ps)
theorem ret_bools {a a' b b' : Bool} (h : a = a') (k : b = b') : Ending.returned (.tuple #[.bool a, .bool b]) = .returned (.tuple #[.bool a', .bool b']) := by rw [h, k]

set_option maxRecDepth 100000 in
set_option maxHeartbeats 3200000 in
theorem specIsSwapPlan_c (v1 : Value) (s : List Vr) (v2 : Value) (l : List Pe) (v3 : Value) (vars : List Int) (v4 : Value) (ps : List (List Int)) (w : World) (h1 : Vrs w v1 s) (h2 : Pes w v2 l) (h3 : Ints w v3 vars) (h4 : Grid w v4 ps) (hw : WfV s) :
    Calls Try.prog 41 #[v1, v2, v3, v4] w fun e w' => e = .returned (.tuple #[.bool (ipV s l vars ps), .bool (ipB s l vars ps)]) ∧ Ext w w' := by
  have H1 := Lib.hid h1; clear h1
  have H2 := Lib.hid h2
  have H3 := Lib.hid h3; clear h3
  have H4 := Lib.hid h4
  have HW := Lib.hid hw; clear hw
  obtain ⟨a2, c2, rfl, e1, e2, g2⟩ := h2
  clear g2
  obtain ⟨a4, c4, rfl, e3, e4, g4⟩ := h4
  have G4 := Lib.hid g4; clear g4
  cases hi : inB s l vars
  · have HB : Hid (ipV s l vars ps = false ∧ ipB s l vars ps = false) := Lib.hid (by simp [ipV, ipB, hi])
    rw [HB.out.1, HB.out.2]
    have HI := Lib.hid hi; clear hi
    go_enter Try.func41, Try.ntmps41
    go_wp2_with fail
    refine (swInput_b false _ _ _ s l vars _ HI.out H1.out HW.out H2.out H3.out).mono ?_
    rintro e w1 ⟨rfl, u1⟩
    go_wp2
    go_ret2
    exact ⟨rfl, u1⟩
  have HI := Lib.hid hi
  have h40 := (inB_true.1 hi).2.1
  have HKO : Hid (∀ k, k < l.length → KeyOk s (peAt l k).vals vars) := Lib.hid (fun k hk => keyOk_of hi hk)
  have HF : Hid (¬ PlanP s l vars ps → ipV s l vars ps = false) := Lib.hid (fun h => by simp [ipV, h])
  have HT : Hid (PlanP s l vars ps → ipV s l vars ps = true) := Lib.hid (fun h => by simp [ipV, h, hi])
  have hB : ipB s l vars ps = true := hi
  rw [hB]
  clear hi hB
  obtain ⟨V, hV⟩ : ∃ V, ipV s l vars ps = V := ⟨_, rfl⟩
  rw [hV] at HF HT ⊢
  clear hV
  cases hp : prsB l.length ps
  · have HP := Lib.hid hp
    have HB := Lib.hid (HF.out (fun h => by have := prsB_true.2 h.1; rw [hp] at this; cases this))
    rw [HB.out]
    clear hp
    go_enter Try.func41, Try.ntmps41
    go_wp2_with fail
    refine (swInput_b true _ _ _ s l vars _ HI.out H1.out HW.out H2.out H3.out).mono ?_
    rintro e w1 ⟨rfl, u1⟩
    go_wp2_with fail
    refine (swPairs_b false _ ps l.length _ HP.out (H4.out.ext u1) (by omega)).mono ?_
    rintro e w2 ⟨rfl, d2⟩
    go_wp2
    go_ret2
    exact ⟨rfl, u1.trans (Drew.ext d2)⟩
  have HP := Lib.hid hp
  have HPS := Lib.hid (prsB_true.1 hp)
  have h20 := HPS.out.1
  clear hp
  go_enter Try.func41, Try.ntmps41
  go_wp2_with fail
  refine (swInput_b true _ _ _ s l vars _ HI.out H1.out HW.out H2.out H3.out).mono ?_
  rintro e w1 ⟨rfl, u1⟩
  go_wp2_with fail
  refine (swPairs_b true _ ps l.length _ HP.out (H4.out.ext u1) (by omega)).mono ?_
  rintro e w2 ⟨rfl, d2⟩
  have u2 := u1.trans (Drew.ext d2)
  clear d2
  obtain ⟨i0, hi0, hz0, hz1, hz2⟩ := info_parts info_int
  go_wp2
  go_loopw [10, 25] (fun r i wr => ∃ k : Nat, k ≤ ps.length ∧ i = .int .i64 k ∧ (∀ j, j < k → StepP s l vars ps j) ∧ IRow w.heap.size wr r (usedTo ps k) ∧ Ext w wr) (fun _ i _ => ps.length - (intOf i).toNat)
  case atStart => exact ⟨0, Nat.zero_le _, rfl, (fun j hj => by omega), by rw [usedTo_zero]; exact IRow.nil, u2⟩
  case round =>
    obtain ⟨k, hk, rfl, hj, hr, hx⟩ := hrel
    obtain ⟨wo, rfl⟩ : ∃ wo : World, wo = wr := ⟨_, rfl⟩
    have HJ := Lib.hid hj; clear hj
    have HR := Lib.hid hr; clear hr
    by_cases hlt : k < ps.length
    · obtain ⟨b1, o1, ar, cr, rfl, hc, r1, r2, r3⟩ := (G4.out.ext hx).at_ hlt
      obtain ⟨p, q, er, hpq, hq⟩ := pair_eq (HPS.out.2 k hlt)
      have HUS : Hid (usedTo ps (k + 1) = usedTo ps k ++ [(p : Int), (q : Int)]) := Lib.hid (by rw [usedTo_succ hlt, er])
      have HST : Hid (StepP s l vars ps k ↔ canB s (peAt l p) (peAt l q) vars = true ∧ hasI (usedTo ps k) p = false ∧ hasI (usedTo ps k) q = false) := Lib.hid (by
        unfold StepP
        rw [er]
        have e0 : ix [(p : Int), (q : Int)] 0 = p := rfl
        have e1 : ix [(p : Int), (q : Int)] 1 = q := rfl
        rw [e0, e1, Int.toNat_natCast, Int.toNat_natCast])
      have hul := usedTo_len HPS.out k hk
      rw [er] at hc r1 r3
      have hl2 : ([(p : Int), (q : Int)]).length = 2 := rfl
      rw [hl2] at hc r1
      obtain ⟨bx, ox, rfl, hx0⟩ := r3 0 (by rw [hl2]; omega)
      obtain ⟨by', oy, e', hx1⟩ := r3 1 (by rw [hl2]; omega)
      simp only [Option.some.injEq, Addr.mk.injEq, and_true] at e'
      obtain ⟨rfl, rfl⟩ := e'
      have e0 : ix [(p : Int), (q : Int)] 0 = p := rfl
      have e1 : ix [(p : Int), (q : Int)] 1 = q := rfl
      rw [e0, Nat.add_zero] at hx0
      rw [e1] at hx1
      clear e0 e1 hl2 er r3
      have hfs : ¬ StepP s l vars ps k → V = false := fun h => HF.out (fun q => h (q.2 k hlt))
      have HFS := Lib.hid hfs; clear hfs
      obtain ⟨U, hU⟩ : ∃ U, usedTo ps k = U := ⟨_, rfl⟩
      rw [hU] at HR HUS HST hul
      clear hU
      have HRI : Hid (∀ x, Ext wo x → Ints x u10 U) := Lib.hid (fun x u => ((HR.out.ext u).own (Nat.le_refl _)).ints)
      obtain ⟨au, cu, evr⟩ := HR.out.form
      subst evr
      obtain ⟨NU, hNU⟩ : ∃ NU, U.length = NU := ⟨_, rfl⟩
      rw [hNU] at HR HRI ⊢
      have hNU2 : NU ≤ 40 := by omega
      have HNU := Lib.hid hNU; clear hNU hul
      cases hcn : canB s (peAt l p) (peAt l q) vars
      · have HC := Lib.hid hcn
        have HB := Lib.hid (HFS.out (fun h => by have := (HST.out.1 h).1; rw [hcn] at this; cases this))
        clear hcn
        go_wp2_with fail
        first
          | (go_region_with ((go_at_call 77; refine (swCan_b false _ _ _ s l vars p q _ HC.out (H1.out.ext (hx.trans (Ext.refl wo).drew)) (H2.out.ext (hx.trans (Ext.refl wo).drew)) (H3.out.ext (hx.trans (Ext.refl wo).drew)) (by omega) (by omega) (HKO.out p (by omega)) (HKO.out q (by omega))).mono ?_; rintro e w3 ⟨rfl, u3⟩; have y0 := Ext.cell u3 hx0; have y1 := Ext.cell u3 hx1)))
          | fail
        all_goals go_wp2
        all_goals go_ret2
        all_goals exact ⟨ret_bools HB.out.symm rfl, (hx.trans (Ext.refl wo).drew).trans u3⟩
      have HC := Lib.hid hcn
      cases hh0 : hasI U (p : Int)
      · cases hh1 : hasI U (q : Int)
        · have HP0 := Lib.hid hh0
          have HQ := Lib.hid hh1
          have HJ2 : Hid (∀ j, j < k + 1 → StepP s l vars ps j) := Lib.hid (fun j hj => by
            by_cases e : j = k
            · subst e; exact HST.out.2 ⟨hcn, hh0, hh1⟩
            · exact HJ.out j (by omega))
          clear hcn hh0 hh1
          go_wp2_with fail
          go_region_held3 (fun x => x.cell? ⟨bx, ox, none⟩ = some (.int .i64 p) ∧ x.cell? ⟨bx, ox + 1, none⟩ = some (.int .i64 q))
            (first | exact ⟨Ext.cell u3 hx0, Ext.cell u3 hx1⟩ | go_keep)
            ((first
              | (go_at_call 78; with_reducible refine (l1Has_b false _ U (q : Int) _ HQ.out (HRI.out _ ((Ext.refl wo).drew.trans u3))).mono ?_; rintro e w5 ⟨rfl, rfl⟩)
              | (go_at_call 78; with_reducible refine (l1Has_b false _ U (p : Int) _ HP0.out (HRI.out _ ((Ext.refl wo).drew.trans u3))).mono ?_; rintro e w4 ⟨rfl, rfl⟩)
              | (go_at_call 77; refine (swCan_b true _ _ _ s l vars p q _ HC.out (H1.out.ext (hx.trans (Ext.refl wo).drew)) (H2.out.ext (hx.trans (Ext.refl wo).drew)) (H3.out.ext (hx.trans (Ext.refl wo).drew)) (by omega) (by omega) (HKO.out p (by omega)) (HKO.out q (by omega))).mono ?_; rintro e w3 ⟨rfl, u3⟩)))
          have ux := (Ext.refl wo).drew.trans u3
          have hown := HR.out.ext ux
          have HOWN := Lib.hid hown
          unfold IRow at hown
          rw [HNU.out] at hown
          have HOW2 := Lib.hid hown; clear hown
          have hs := (hx.trans ux).size
          have HNW : Hid (∀ j u, [Value.int .i64 (p : Int), Value.int .i64 (q : Int)][j]? = some u → w5.cell? ((⟨bx, ox, none⟩ : Addr).add j) = some u) := Lib.hid (fun j u hj => by
            match j, hj with
            | 0, hj => simp at hj; subst hj; simpa [Addr.add] using Ext.cell u3 hx0
            | 1, hj => simp at hj; subst hj; simpa [Addr.add] using Ext.cell u3 hx1
            | j + 2, hj => simp at hj)
          go_wp2_with (at_builtin; go_loud (refine wpList_append_lies _ rfl _ _ _ rfl w.heap.size 3 i0 _ 1 8 Try.underlying24 hi0 hz0 hz1 hz2 rfl (by omega) (.slice au NU cu) NU (U.map (Value.int .i64)) rfl HOW2.out ⟨bx, ox, none⟩ 2 cr [.int .i64 (p : Int), .int .i64 (q : Int)] rfl rfl HNW.out (by intro u hu; simp at hu; rcases hu with rfl | rfl <;> rfl) (by omega) (by simp [maxLen]; omega) (by omega) (by omega) w5.heap.size rfl ?_))
          intro g cp w6 hown3 hgrow hat hlt3
          have hx3 := HOWN.out.grew (hx.trans ux) (Nat.le_refl _) hgrow
          have hpush : IRow w.heap.size w6 (.slice (some ⟨g, 0, none⟩) (NU + 2) cp) (U ++ [(p : Int), (q : Int)]) := by
            have e : IRow w.heap.size w6 (.slice (some ⟨g, 0, none⟩) (NU + 2) cp) (U ++ [(p : Int), (q : Int)]) = w6.ownsRow w.heap.size 3 1 (.slice (some ⟨g, 0, none⟩) (NU + 2) cp) (NU + 2) (U.map (Value.int .i64) ++ [.int .i64 (p : Int), .int .i64 (q : Int)]) := by simp [IRow, HNU.out]
            rw [e]; exact hown3
          have HPU := Lib.hid hpush; clear hpush hown3
          have HX3 := Lib.hid hx3; clear hx3
          clear hgrow
          go_wp2
          go_roundw
          case rel => exact ⟨k + 1, by omega, by go_num, HJ2.out, by rw [HUS.out]; exact HPU.out, HX3.out⟩
          case measure => simp [intOf]; omega
        · have HP0 := Lib.hid hh0
          have HQ := Lib.hid hh1
          have HB := Lib.hid (HFS.out (fun h => by have := (HST.out.1 h).2.2; rw [hh1] at this; cases this))
          clear hcn hh0 hh1
          go_wp2_with fail
          go_region_held3 (fun x => x.cell? ⟨bx, ox, none⟩ = some (.int .i64 p) ∧ x.cell? ⟨bx, ox + 1, none⟩ = some (.int .i64 q))
            (first | exact ⟨Ext.cell u3 hx0, Ext.cell u3 hx1⟩ | go_keep)
            ((first
              | (go_at_call 78; with_reducible refine (l1Has_b true _ U (q : Int) _ HQ.out (HRI.out _ ((Ext.refl wo).drew.trans u3))).mono ?_; rintro e w5 ⟨rfl, rfl⟩)
              | (go_at_call 78; with_reducible refine (l1Has_b false _ U (p : Int) _ HP0.out (HRI.out _ ((Ext.refl wo).drew.trans u3))).mono ?_; rintro e w4 ⟨rfl, rfl⟩)
              | (go_at_call 77; refine (swCan_b true _ _ _ s l vars p q _ HC.out (H1.out.ext (hx.trans (Ext.refl wo).drew)) (H2.out.ext (hx.trans (Ext.refl wo).drew)) (H3.out.ext (hx.trans (Ext.refl wo).drew)) (by omega) (by omega) (HKO.out p (by omega)) (HKO.out q (by omega))).mono ?_; rintro e w3 ⟨rfl, u3⟩)))
          go_wp2
          go_ret2
          exact ⟨ret_bools HB.out.symm rfl, (hx.trans (Ext.refl wo).drew).trans u3⟩
      · have HP0 := Lib.hid hh0
        have HB := Lib.hid (HFS.out (fun h => by have := (HST.out.1 h).2.1; rw [hh0] at this; cases this))
        clear hcn hh0
        go_wp2_with fail
        first
          | (go_region_with (first
              | (go_at_call 78; with_reducible refine (l1Has_b true _ U (p : Int) _ HP0.out (HRI.out _ ((Ext.refl wo).drew.trans u3))).mono ?_; rintro e w4 ⟨rfl, rfl⟩)
              | (go_at_call 77; refine (swCan_b true _ _ _ s l vars p q _ HC.out (H1.out.ext (hx.trans (Ext.refl wo).drew)) (H2.out.ext (hx.trans (Ext.refl wo).drew)) (H3.out.ext (hx.trans (Ext.refl wo).drew)) (by omega) (by omega) (HKO.out p (by omega)) (HKO.out q (by omega))).mono ?_; rintro e w3 ⟨rfl, u3⟩; have y0 := Ext.cell u3 hx0; have y1 := Ext.cell u3 hx1)))
          | fail
        all_goals go_wp2
        all_goals go_ret2
        all_goals exact ⟨ret_bools HB.out.symm rfl, (hx.trans (Ext.refl wo).drew).trans u3⟩
    · have HB := Lib.hid (HT.out ⟨HPS.out, fun j hj => HJ.out j (by omega)⟩)
      go_wp2
      go_ret2
      exact ⟨ret_bools HB.out.symm rfl, hx⟩
end Go.Proofs.Ytkkoidoinbiikaa
