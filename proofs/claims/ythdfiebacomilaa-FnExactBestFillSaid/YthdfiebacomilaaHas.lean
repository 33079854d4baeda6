/- Whether there is a flow, and the greatest sum of a filling; the spec's and the program's: HasFlow, BestFill. -/
import Derived.Test.YthdfiebacomilaaSfeas
import Derived.Test.YthdfiebacomilaaAny
namespace Go.Proofs.Ythdfiebacomilaa
open Go.RowKit
open Fm

open Classical in
noncomputable def fitsB (T : Tr) : Bool := decide (∃ x, Fits (NetT T) x)
open Classical in
/-- the greatest sum -/
noncomputable def bestD (T : Tr) : Int := if h : ∃ x A B, Cert (NetT T) x A B then (NetT T).total h.choose else 0
theorem best_of {T : Tr} {x : Nat → Nat → Int} {A B : Nat → Bool} (h : Cert (NetT T) x A B) : bestD T = (NetT T).total x ∧ fitsB T = true := by
  have he : ∃ x A B, Cert (NetT T) x A B := ⟨x, A, B, h⟩
  refine ⟨?_, by simp only [fitsB, decide_eq_true_eq]; exact ⟨x, h.fits⟩⟩
  unfold bestD
  rw [dif_pos he]
  obtain ⟨A', B', h'⟩ := he.choose_spec
  exact h'.same h
theorem no_best {T : Tr} (h : ¬ ∃ x, Fits (NetT T) x) : bestD T = 0 ∧ fitsB T = false := by
  refine ⟨?_, by simp only [fitsB, decide_eq_false_iff_not]; exact h⟩
  unfold bestD
  rw [dif_neg]
  rintro ⟨x, A, B, hc⟩
  exact h ⟨x, hc.fits⟩
open Classical in
noncomputable def bestV (T : Tr) : Int := if trB T = true then bestD T else 0
noncomputable def bestB (T : Tr) : Bool := trB T && fitsB T
theorem rowS_total {T : Tr} {X : List (List Int)} (h : Rc T.rows.length T.cols.length X) : (rowS X).sum = (NetT T).total (elOf X) := by
  rw [sum_S, rowS_length, h.len]
  exact S_congr (fun i hi => by rw [ix_rowS (by rw [h.len]; exact hi), h.rowsum hi]; rfl)
def sumUp (X : List (List Int)) (k : Nat) : Int := S k (fun i => (rowAt X i).sum)
theorem sumUp_all {T : Tr} {X : List (List Int)} (h : Rc T.rows.length T.cols.length X) : sumUp X T.rows.length = (NetT T).total (elOf X) := S_congr (fun _ hi => h.rowsum hi)
theorem sumUp_bound {T : Tr} {X : List (List Int)} {rs cs : List Int} (h : SFill T X rs cs) (ho : TrOk T) {k : Nat} (hk : k ≤ T.rows.length) : 0 ≤ sumUp X k ∧ sumUp X k ≤ 800000 := by
  have h1 : ∀ i, i < T.rows.length → 0 ≤ (rowAt X i).sum ∧ (rowAt X i).sum ≤ 100000 := fun i hi => by
    rw [h.rc.rowsum hi]
    have h2 := h.row i hi
    have h3 := ho.rowR hi
    have h5 : 0 ≤ S T.cols.length (elOf X i) := S_nonneg (fun _ hj => by have := h.lo _ _ hi hj; have := ho.el hi hj; omega)
    omega
  have h2 : 0 ≤ sumUp X k := S_nonneg (fun i hi => (h1 i (by omega)).1)
  have h3 : sumUp X k ≤ S k (fun _ => 100000) := S_le (fun i hi => (h1 i (by omega)).2)
  have h4 := S_const_le (n := k) (N := 8) (c := 100000) (by have := ho.dims.2.1; omega) (by omega)
  omega

set_option maxRecDepth 100000 in
set_option maxHeartbeats 1600000 in
theorem specHas_c (v : Value) (T : Tr) (w : World) (h : TrR w v T) :
    Calls Try.prog 22 #[v] w fun e w' => e = .returned (.tuple #[.bool (trB T && feasB T), .bool (trB T)]) ∧ Ext w w' := by
  have H := Lib.hid h
  obtain ⟨a0, c0, a1, c1, a2, c2, a3, c3, rfl, n0, n1, n2, n3⟩ := h.form
  clear h
  have u0 := (Ext.refl w).alloc (.cells #[.slice a0 T.rows.length c0, .slice a1 T.cols.length c1, .slice a2 T.lo.length c2, .slice a3 T.hi.length c3] 29)
  have b0 := Box.new w 29 #[.slice a0 T.rows.length c0, .slice a1 T.cols.length c1, .slice a2 T.lo.length c2, .slice a3 T.hi.length c3] rfl
  have k0 := b0.cell 0 (by simp)
  have k1 := b0.cell 1 (by simp)
  have k2 := b0.cell 2 (by simp)
  have k3 := b0.cell 3 (by simp)
  cases ht : trB T
  · have HT := Lib.hid ht; clear ht
    go_enter Try.func22, Try.ntmps22
    go_wp2_with fail
    refine (tGood_b false _ T _ HT.out (H.out.ext u0)).mono ?_
    rintro e w1 ⟨rfl, u1⟩
    go_wp2
    go_ret2
    exact ⟨by simp, u0.trans u1⟩
  have HO := Lib.hid (trB_true.1 ht)
  have HT := Lib.hid ht; clear ht
  obtain ⟨F, hF⟩ : ∃ F, feasB T = F := ⟨_, rfl⟩
  rw [hF]
  have HFE := Lib.hid hF; clear hF
  go_enter Try.func22, Try.ntmps22
  go_wp2_with fail
  refine (tGood_b true _ T _ HT.out (H.out.ext u0)).mono ?_
  rintro e w1 ⟨rfl, u1⟩
  have b1 := b0.ext u1
  have k0' := b1.cell 0 (by simp)
  have k1' := b1.cell 1 (by simp)
  have k2' := b1.cell 2 (by simp)
  have k3' := b1.cell 3 (by simp)
  have v1 := u0.trans u1
  go_wp2_with fail
  refine (tFeasible_b F _ T _ HFE.out (H.out.ext v1) HO.out).mono ?_
  rintro e w2 ⟨x2, rfl, u2⟩
  go_wp2
  go_ret2
  exact ⟨by simp, v1.trans u2⟩
theorem run_neq_nil (t e : TypeId) (h : Program.underlying Try.prog t = some (.slice e)) (w : World) (a : Option Addr) (n c : Nat) : (binOp .neq t (.slice a n c) (.slice none 0 0)).run Try.prog w = .ok (.bool (!a.isNone)) w := by
  simp only [binOp]
  simp [Op.equal, Op.maxDepth, Go.Lib.run_equalIn_slice_nil w 9999 t e a n c 0 0 h]
set_option maxRecDepth 100000 in
set_option maxHeartbeats 1600000 in
theorem implHas_c (v : Value) (T : Tr) (w : World) (h : TrR w v T) :
    Calls Try.prog 23 #[v] w fun e w' => e = .returned (.tuple #[.bool (trB T && feasB T), .bool (trB T)]) ∧ Ext w w' := by
  have H := Lib.hid h
  obtain ⟨a0, c0, a1, c1, a2, c2, a3, c3, rfl, n0, n1, n2, n3⟩ := h.form
  clear h
  have u0 := (Ext.refl w).alloc (.cells #[.slice a0 T.rows.length c0, .slice a1 T.cols.length c1, .slice a2 T.lo.length c2, .slice a3 T.hi.length c3] 29)
  have b0 := Box.new w 29 #[.slice a0 T.rows.length c0, .slice a1 T.cols.length c1, .slice a2 T.lo.length c2, .slice a3 T.hi.length c3] rfl
  have k0 := b0.cell 0 (by simp)
  have k1 := b0.cell 1 (by simp)
  have k2 := b0.cell 2 (by simp)
  have k3 := b0.cell 3 (by simp)
  have q22 : ∀ (w : World) (a : Option Addr) (n c : Nat), (binOp .neq 23 (.slice a n c) (.slice none 0 0)).run Try.prog w = .ok (.bool (!a.isNone)) w := run_neq_nil 23 22 Try.underlying23
  cases ht : trB T
  · have HT := Lib.hid ht; clear ht
    go_enter Try.func23, Try.ntmps23
    go_wp2_with fail
    refine (implIsTransport_b false _ T _ HT.out (H.out.ext u0)).mono ?_
    rintro e w1 ⟨rfl, u1⟩
    go_wp2
    go_ret2
    exact ⟨by simp, u0.trans u1⟩
  have HO := Lib.hid (trB_true.1 ht)
  have HT := Lib.hid ht; clear ht
  have HFE : Hid (feasB T = feasB T) := Lib.hid rfl
  go_enter Try.func23, Try.ntmps23
  go_wp2_with fail
  refine (implIsTransport_b true _ T _ HT.out (H.out.ext u0)).mono ?_
  rintro e w1 ⟨rfl, u1⟩
  have b1 := b0.ext u1
  have k0' := b1.cell 0 (by simp)
  have k1' := b1.cell 1 (by simp)
  have k2' := b1.cell 2 (by simp)
  have k3' := b1.cell 3 (by simp)
  have v1 := u0.trans u1
  go_wp2_with fail
  refine (anyFlow_c _ T _ (H.out.ext v1) HO.out).mono ?_
  rintro e w2 ⟨x2, rfl, u2, hp⟩
  rcases hp with ⟨rfl, hno⟩ | ⟨rvs, X, b, o, cap, rfl, oX, rcX, hfl⟩
  · have HF : Hid (feasB T = false) := Lib.hid (feasB_not hno)
    clear hno
    go_wp2
    go_ret2
    exact ⟨by rw [HF.out] <;> rfl, v1.trans u2⟩
  · have HF : Hid (feasB T = true) := Lib.hid (feasB_of ⟨_, hfl⟩)
    clear oX rcX hfl
    go_wp2
    go_ret2
    exact ⟨by rw [HF.out] <;> rfl, v1.trans u2⟩
set_option maxRecDepth 100000 in
set_option maxHeartbeats 1600000 in
theorem specBest_c (v : Value) (T : Tr) (w : World) (h : TrR w v T) :
    Calls Try.prog 20 #[v] w fun e w' => e = .returned (.tuple #[.int .i64 (bestV T), .bool (bestB T)]) ∧ Ext w w' := by
  have H := Lib.hid h
  obtain ⟨a0, c0, a1, c1, a2, c2, a3, c3, rfl, n0, n1, n2, n3⟩ := h.form
  clear h
  have u0 := (Ext.refl w).alloc (.cells #[.slice a0 T.rows.length c0, .slice a1 T.cols.length c1, .slice a2 T.lo.length c2, .slice a3 T.hi.length c3] 29)
  have b0 := Box.new w 29 #[.slice a0 T.rows.length c0, .slice a1 T.cols.length c1, .slice a2 T.lo.length c2, .slice a3 T.hi.length c3] rfl
  have k0 := b0.cell 0 (by simp)
  have k1 := b0.cell 1 (by simp)
  have k2 := b0.cell 2 (by simp)
  have k3 := b0.cell 3 (by simp)
  cases ht : trB T
  · have hV : bestV T = 0 := by simp [bestV, ht]
    have hB : bestB T = false := by simp [bestB, ht]
    rw [hV, hB]
    clear hV hB
    have HT := Lib.hid ht; clear ht
    go_enter Try.func20, Try.ntmps20
    go_wp2_with fail
    refine (tGood_b false _ T _ HT.out (H.out.ext u0)).mono ?_
    rintro e w1 ⟨rfl, u1⟩
    go_wp2
    go_ret2
    exact ⟨rfl, u0.trans u1⟩
  have hV : bestV T = bestD T := by simp [bestV, ht]
  have hB : bestB T = fitsB T := by simp [bestB, ht]
  rw [hV, hB]
  clear hV hB
  have HO := Lib.hid (trB_true.1 ht)
  have HT := Lib.hid ht; clear ht
  go_enter Try.func20, Try.ntmps20
  go_wp2_with fail
  refine (tGood_b true _ T _ HT.out (H.out.ext u0)).mono ?_
  rintro e w1 ⟨rfl, u1⟩
  have b1 := b0.ext u1
  have k0' := b1.cell 0 (by simp)
  have k1' := b1.cell 1 (by simp)
  have k2' := b1.cell 2 (by simp)
  have k3' := b1.cell 3 (by simp)
  have v1 := u0.trans u1
  go_wp2_with fail
  refine (tFilled_c _ T _ (H.out.ext v1) HO.out).mono ?_
  rintro e w2 ⟨lo, fb, mid, hi, u, F, u2, hp⟩
  have v2 := v1.trans u2
  rcases hp with ⟨rfl, X, rs, cs, f1, f2, A, B, f3⟩ | ⟨rfl, f1⟩
  · have hbe := best_of f3
    rw [← sumUp_all f2.rc] at hbe
    have HBE := Lib.hid hbe; clear hbe f3
    have b2 := f1.box
    obtain ⟨ax, hax⟩ : ∃ ax, F.ax = ax := ⟨_, rfl⟩
    obtain ⟨cx, hcx⟩ : ∃ cx, F.cx = cx := ⟨_, rfl⟩
    have y4 := b2.cell 4 (by simp)
    have hg := f1.gx.grid
    rw [hax] at y4 hg
    rw [hcx] at y4
    have HG := Lib.hid hg; clear hg
    have HS := Lib.hid f2
    have hd := HO.out.dims.2.1
    have hcap := f1.cap.2.1
    have hcap1 := f1.cap.1
    rw [hcx] at hcap hcap1
    clear f1 f2 b2 hax hcx
    obtain ⟨n, hn⟩ : ∃ n, T.rows.length = n := ⟨_, rfl⟩
    rw [hn] at HBE y4 hd hcap1
    have HN := Lib.hid hn; clear hn
    go_wp2
    go_loop [6, 24] (fun s i => ∃ k : Nat, k ≤ n ∧ i = .int .i64 k ∧ s = .int .i64 (sumUp X k)) (fun _ i => n - (intOf i).toNat)
    case atStart => exact ⟨0, Nat.zero_le _, rfl, rfl⟩
    case round =>
      obtain ⟨k, hk, rfl, rfl⟩ := hrel
      have hsb := sumUp_bound HS.out HO.out (k := k) (by rw [HN.out]; exact hk)
      by_cases hlt : k < n
      · have hkT : k < T.rows.length := by rw [HN.out]; exact hlt
        obtain ⟨b, o, ar, cr, ex, hc, r1, r2, r3⟩ := HG.out.at_ (k := k) (by rw [HS.out.rc.len]; exact hkT)
        have hI : Ints w2 (.slice ar (rowAt X k).length cr) (rowAt X k) := ⟨ar, cr, rfl, r1, r2, r3⟩
        have HI := Lib.hid hI; clear hI r3
        subst ex
        have hs2 := sumUp_bound HS.out HO.out (k := k + 1) (by rw [HN.out]; exact hlt)
        have hsu : sumUp X (k + 1) = sumUp X k + (rowAt X k).sum := rfl
        have SO := Lib.hid (sumOk_of ((HS.out.within.tame HO.out).row (by rw [HS.out.rc.len]; exact hkT)))
        rw [hsu] at hs2
        obtain ⟨Z, hZ⟩ : ∃ Z, (rowAt X k).sum = Z := ⟨_, rfl⟩
        rw [hZ] at hs2 hsu
        have HZ := Lib.hid hZ; clear hZ
        have HSU := Lib.hid hsu; clear hsu hkT
        go_wp2_with fail
        refine (tSum_b Z _ (rowAt X k) _ HZ.out HI.out SO.out).mono ?_
        rintro e w2 ⟨rfl, rfl⟩
        go_wp2
        go_round
        case rel => exact ⟨k + 1, by omega, by go_num, by rw [HSU.out] <;> go_num⟩
        case measure => simp [intOf]; omega
      · have hkn : k = n := by omega
        subst hkn
        go_wp2
        go_ret2
        exact ⟨by rw [HBE.out.1, HBE.out.2] <;> rfl, v2⟩
  · have HBE := Lib.hid (no_best f1); clear f1
    go_wp2
    go_ret2
    exact ⟨by rw [HBE.out.1, HBE.out.2] <;> rfl, v2⟩
set_option maxRecDepth 100000 in
set_option maxHeartbeats 1600000 in
theorem implBest_c (v : Value) (T : Tr) (w : World) (h : TrR w v T) :
    Calls Try.prog 21 #[v] w fun e w' => e = .returned (.tuple #[.int .i64 (bestV T), .bool (bestB T)]) ∧ Ext w w' := by
  have H := Lib.hid h
  obtain ⟨a0, c0, a1, c1, a2, c2, a3, c3, rfl, n0, n1, n2, n3⟩ := h.form
  clear h
  have u0 := (Ext.refl w).alloc (.cells #[.slice a0 T.rows.length c0, .slice a1 T.cols.length c1, .slice a2 T.lo.length c2, .slice a3 T.hi.length c3] 29)
  have b0 := Box.new w 29 #[.slice a0 T.rows.length c0, .slice a1 T.cols.length c1, .slice a2 T.lo.length c2, .slice a3 T.hi.length c3] rfl
  have k0 := b0.cell 0 (by simp)
  have k1 := b0.cell 1 (by simp)
  have k2 := b0.cell 2 (by simp)
  have k3 := b0.cell 3 (by simp)
  have q22 : ∀ (w : World) (a : Option Addr) (n c : Nat), (binOp .eql 23 (.slice a n c) (.slice none 0 0)).run Try.prog w = .ok (.bool a.isNone) w := fun w a n c => Go.Lib.run_eql_slice_nil w _ _ a n c 0 0 Try.underlying23
  cases ht : trB T
  · have hV : bestV T = 0 := by simp [bestV, ht]
    have hB : bestB T = false := by simp [bestB, ht]
    rw [hV, hB]
    clear hV hB
    have HT := Lib.hid ht; clear ht
    go_enter Try.func21, Try.ntmps21
    go_wp2_with fail
    refine (implIsTransport_b false _ T _ HT.out (H.out.ext u0)).mono ?_
    rintro e w1 ⟨rfl, u1⟩
    go_wp2
    go_ret2
    exact ⟨rfl, u0.trans u1⟩
  have hV : bestV T = bestD T := by simp [bestV, ht]
  have hB : bestB T = fitsB T := by simp [bestB, ht]
  rw [hV, hB]
  clear hV hB
  have HO := Lib.hid (trB_true.1 ht)
  have HT := Lib.hid ht; clear ht
  go_enter Try.func21, Try.ntmps21
  go_wp2_with fail
  refine (implIsTransport_b true _ T _ HT.out (H.out.ext u0)).mono ?_
  rintro e w1 ⟨rfl, u1⟩
  have b1 := b0.ext u1
  have k0' := b1.cell 0 (by simp)
  have k1' := b1.cell 1 (by simp)
  have k2' := b1.cell 2 (by simp)
  have k3' := b1.cell 3 (by simp)
  have v1 := u0.trans u1
  go_wp2_with fail
  refine (fill_c _ T _ (H.out.ext v1) HO.out).mono ?_
  rintro e w2 ⟨x2, rfl, u2, hp⟩
  have v2 := v1.trans u2
  rcases hp with ⟨rfl, f1⟩ | ⟨rvs, X, oX, rcX, A, B, hce⟩
  · have HBE := Lib.hid (no_best f1); clear f1
    go_wp2
    go_ret2
    exact ⟨by rw [HBE.out.1, HBE.out.2] <;> rfl, v2⟩
  · have hbe := best_of hce
    rw [← rowS_total rcX] at hbe
    have hwi : Within T X := ⟨rcX.len, fun i hi => ⟨rcX.row i hi, fun j hj => ⟨hce.fits.lo i j hi hj, hce.fits.hi i j hi hj⟩⟩⟩
    have HTX := Lib.hid (hwi.tame HO.out)
    have HBE := Lib.hid hbe; clear hbe
    have hd1 := HO.out.dims.1
    have hne : X ≠ [] := by intro e; have h9 := rcX.len; rw [e] at h9; simp at h9; omega
    have HG := Lib.hid oX.grid
    obtain ⟨ao, cap, rfl, p1, p2, oXA⟩ := oX
    obtain ⟨b, o, rfl, _⟩ := oXA.at_ (k := 0) (by rw [rcX.len]; exact hd1)
    have HSO : Hid (SumOk (rowS X)) := Lib.hid (SumOk.of_bound (B := 100000) (n := 8) (by omega) (fun x hx => by
      obtain ⟨i, hi, rfl⟩ := List.getElem_of_mem hx
      have hi' : i < T.rows.length := by rw [rowS_length, rcX.len] at hi; exact hi
      rw [← ix_eq hi, ix_rowS (by rw [rcX.len]; exact hi'), rcX.rowsum hi']
      have h1 := hce.fits.row i hi'
      have h2 := HO.out.rowR hi'
      have h3 : 0 ≤ S T.cols.length (elOf X i) := S_nonneg (fun j hj => by have := hce.fits.lo i j hi' hj; have := (HO.out.el hi' hj).1; show 0 ≤ elOf X i j; have h9 : elOf T.lo i j ≤ elOf X i j := hce.fits.lo i j hi' hj; omega)
      have h4 : S T.cols.length (elOf X i) ≤ ix T.rows i := h1
      omega) (by rw [rowS_length, rcX.len]; exact HO.out.dims.2.1) (by omega))
    clear oXA hce rcX hwi hne
    go_wp2_with fail
    refine (rowSums_c _ X _ HG.out HTX.out).mono ?_
    rintro e w3 ⟨x3, rfl, o3, u3⟩
    have HI := Lib.hid o3.ints; clear o3
    go_wp2_with fail
    refine (total_b (bestD T) _ (rowS X) _ HBE.out.1.symm HI.out HSO.out).mono ?_
    rintro e w4 ⟨rfl, rfl⟩
    go_wp2
    go_ret2
    exact ⟨by rw [HBE.out.2] <;> rfl, v2.trans u3⟩
end Go.Proofs.Ythdfiebacomilaa
