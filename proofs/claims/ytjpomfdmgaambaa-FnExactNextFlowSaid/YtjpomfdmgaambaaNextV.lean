/- NextFlow, the spec's. -/
import Derived.Test.YtjpomfdmgaambaaNextS
import Derived.Test.YtjpomfdmgaambaaNextW
namespace Go.Proofs.Ytjpomfdmgaambaa
open Go.RowKit
open Fm

set_option maxRecDepth 100000 in
set_option maxHeartbeats 1600000 in
theorem specNext_c (v : Value) (T : Tr) (v2 : Value) (X : List (List Int)) (w : World) (h : TrR w v T) (h2 : Grid w v2 X) : Calls Try.prog 9 #[v, v2] w (RetGrid (fun v' => .tuple #[v', .bool (nfB T X)]) w (nfV T X)) := by
  have H := Lib.hid h
  have H2 := Lib.hid h2
  cases hT : trB T
  · obtain ⟨a0, c0, a1, c1, a2, c2, a3, c3, rfl, n0, n1, n2, n3⟩ := h.form
    clear h
    have e1 : nfB T X = false := by simp [nfB, hT]
    have e2 : nfV T X = [] := by simp [nfV, hT]
    rw [e1, e2]
    clear e1 e2
    have HT := Lib.hid hT; clear hT
    have u0 := (Ext.refl w).alloc (.cells #[.slice a0 T.rows.length c0, .slice a1 T.cols.length c1, .slice a2 T.lo.length c2, .slice a3 T.hi.length c3] 30)
    go_enter Try.func9, Try.ntmps9
    go_wp2_with fail
    refine (tGood_b false _ T _ HT.out (H.out.ext u0)).mono ?_
    rintro e w1 ⟨rfl, u1⟩
    go_wp2
    go_ret2
    exact ⟨_, [], rfl, OwnG.nil, u0.trans u1⟩
  have ho := trB_true.1 hT
  obtain ⟨a0, c0, a1, c1, a2, c2, a3, c3, rfl⟩ := tr_form h ho
  clear h
  cases hF : flowB T X
  · have e1 : nfB T X = false := by simp [nfB, hF]
    have e2 : nfV T X = [] := by simp [nfV, hF]
    rw [e1, e2]
    clear e1 e2
    have HT := Lib.hid hT; clear hT
    have HF := Lib.hid hF; clear hF
    have HO := Lib.hid ho; clear ho
    have u0 := (Ext.refl w).alloc (.cells #[.slice a0 T.rows.length c0, .slice a1 T.cols.length c1, .slice a2 T.rows.length c2, .slice a3 T.rows.length c3] 30)
    have b0 := Box.new w 30 #[.slice a0 T.rows.length c0, .slice a1 T.cols.length c1, .slice a2 T.rows.length c2, .slice a3 T.rows.length c3] rfl
    go_enter Try.func9, Try.ntmps9
    go_wp2_with fail
    refine (tGood_b true _ T _ HT.out (H.out.ext u0)).mono ?_
    rintro e w1 ⟨rfl, u1⟩
    have b1 := b0.ext u1
    have y0 := b1.cell 0 (by simp)
    have y1 := b1.cell 1 (by simp)
    have y2 := b1.cell 2 (by simp)
    have y3 := b1.cell 3 (by simp)
    have v1 := u0.trans u1
    go_wp2_with fail
    refine (tFits_b false _ T _ X _ HF.out HO.out (H.out.ext v1) (H2.out.ext v1)).mono ?_
    rintro e w2 ⟨rfl, u2⟩
    go_wp2
    go_ret2
    exact ⟨_, [], rfl, OwnG.nil, v1.trans u2⟩
  have hok := flow_of_ok (flowB_true.1 hF)
  obtain ⟨ax, cx, rfl, x1, x2, x3⟩ := h2
  clear x3
  have e1 : nfB T X = nxB T X := by simp [nfB, hT, hF]
  have e2 : nfV T X = nxV T X := by simp only [nfV, hT, hF, Bool.and_self, if_true]
  rw [e1, e2]
  clear e1 e2
  have hxl : X.length = T.rows.length := hok.1.len
  rw [hxl] at H2 x1 ⊢
  clear hxl
  have HT := Lib.hid hT; clear hT
  have HF := Lib.hid hF; clear hF
  have HO := Lib.hid ho; clear ho
  have HK := Lib.hid hok; clear hok
  obtain ⟨n, hn⟩ : ∃ n, T.rows.length = n := ⟨_, rfl⟩
  obtain ⟨m, hm⟩ : ∃ m, T.cols.length = m := ⟨_, rfl⟩
  rw [hn, hm] at HK
  rw [hn] at H H2 x1 ⊢
  rw [hm] at H ⊢
  have HN := Lib.hid hn; clear hn
  have HM := Lib.hid hm; clear hm
  have u0 := (Ext.refl w).alloc (.cells #[.slice a0 n c0, .slice a1 m c1, .slice a2 n c2, .slice a3 n c3] 30)
  have b0 := Box.new w 30 #[.slice a0 n c0, .slice a1 m c1, .slice a2 n c2, .slice a3 n c3] rfl
  go_enter Try.func9, Try.ntmps9
  go_wp2_with fail
  refine (tGood_b true _ T _ HT.out (H.out.ext u0)).mono ?_
  rintro e w1 ⟨rfl, u1⟩
  have b1 := b0.ext u1
  have y0 := b1.cell 0 (by simp)
  have y1 := b1.cell 1 (by simp)
  have y2 := b1.cell 2 (by simp)
  have y3 := b1.cell 3 (by simp)
  have v1 := u0.trans u1
  go_wp2_with fail
  refine (tFits_b true _ T _ X _ HF.out HO.out (H.out.ext v1) (H2.out.ext v1)).mono ?_
  rintro e w2 ⟨rfl, u2⟩
  have b2 := b1.ext u2
  have z0 := b2.cell 0 (by simp)
  have z1 := b2.cell 1 (by simp)
  have z2 := b2.cell 2 (by simp)
  have z3 := b2.cell 3 (by simp)
  have v2 := v1.trans u2
  clear y0 y1 y2 y3
  go_wp2_with fail
  refine (tNext_c T X a0 a1 a2 a3 ax c0 c1 c2 c3 cx n m _ HN.out HM.out (H.out.ext v2) (H2.out.ext v2) HO.out HK.out.1 HK.out.2).mono ?_
  rintro e w3 ⟨v', rvs, rfl, og, u3⟩
  have OG := Lib.hid (og.mono v2.size (Nat.le_refl _)); clear og
  go_wp2
  go_ret2
  exact ⟨_, rvs, rfl, OG.out, v2.trans u3⟩
end Go.Proofs.Ytjpomfdmgaambaa
