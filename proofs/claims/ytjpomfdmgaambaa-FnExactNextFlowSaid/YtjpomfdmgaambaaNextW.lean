/- NextFlow, the program's. -/
import Derived.Test.YtjpomfdmgaambaaNextI
namespace Go.Proofs.Ytjpomfdmgaambaa
open Go.RowKit
open Fm

/-- a network's value, its lengths those of its sums -/
theorem tr_form {T : Tr} {w : World} {v : Value} (h : TrR w v T) (ho : TrOk T) : ∃ a0 c0 a1 c1 a2 c2 a3 c3, v = .agg #[.slice a0 T.rows.length c0, .slice a1 T.cols.length c1, .slice a2 T.rows.length c2, .slice a3 T.rows.length c3] := by
  obtain ⟨a0, c0, a1, c1, a2, c2, a3, c3, rfl, _⟩ := h.form
  exact ⟨a0, c0, a1, c1, a2, c2, a3, c3, by rw [ho.rcLo.len, ho.rcHi.len]⟩

set_option maxRecDepth 100000 in
set_option maxHeartbeats 1600000 in
theorem implNext_c (v : Value) (T : Tr) (v2 : Value) (X : List (List Int)) (w : World) (h : TrR w v T) (h2 : Grid w v2 X) : Calls Try.prog 12 #[v, v2] w (RetGrid (fun v' => .tuple #[v', .bool (nfB T X)]) w (nfV T X)) := by
  have H := Lib.hid h
  have H2 := Lib.hid h2
  have q23 : ∀ (w : World) (a : Option Addr) (n c : Nat), (binOp .neq 23 (.slice a n c) (.slice none 0 0)).run Try.prog w = .ok (.bool (!a.isNone)) w := eql_nil_ff 23 22 Try.underlying23
  cases hB : (trB T && flowB T X)
  · obtain ⟨a0, c0, a1, c1, a2, c2, a3, c3, rfl, n0, n1, n2, n3⟩ := h.form
    clear h
    have e1 : nfB T X = false := by simp [nfB, hB]
    have e2 : nfV T X = [] := by simp [nfV, hB]
    rw [e1, e2]
    clear e1 e2
    have HB := Lib.hid hB; clear hB
    have u0 := (Ext.refl w).alloc (.cells #[.slice a0 T.rows.length c0, .slice a1 T.cols.length c1, .slice a2 T.lo.length c2, .slice a3 T.hi.length c3] 30)
    go_enter Try.func12, Try.ntmps12
    go_wp2_with fail
    refine (implIsFlow_c _ T _ X _ (H.out.ext u0) (H2.out.ext u0)).mono ?_
    rw [HB.out]
    rintro e w1 ⟨rfl, u1⟩
    go_wp2
    go_ret2
    exact ⟨_, [], rfl, OwnG.nil, u0.trans u1⟩
  have hh := Bool.and_eq_true_iff.1 hB
  have ho := trB_true.1 hh.1
  have hok := flow_of_ok (flowB_true.1 hh.2)
  obtain ⟨a0, c0, a1, c1, a2, c2, a3, c3, rfl⟩ := tr_form h ho
  obtain ⟨ax, cx, rfl, x1, x2, x3⟩ := h2
  clear x3 h
  have e1 : nfB T X = nxB T X := by simp [nfB, hh.1, hh.2]
  have e2 : nfV T X = nxV T X := by simp only [nfV, hB, if_true]
  rw [e1, e2]
  clear e1 e2
  have hxl : X.length = T.rows.length := hok.1.len
  rw [hxl] at H2 x1 ⊢
  have HB := Lib.hid hB; clear hB hxl
  have HT := Lib.hid hh.1; clear hh
  have HO := Lib.hid ho; clear ho
  have HK := Lib.hid hok; clear hok
  obtain ⟨n, hn⟩ : ∃ n, T.rows.length = n := ⟨_, rfl⟩
  obtain ⟨m, hm⟩ : ∃ m, T.cols.length = m := ⟨_, rfl⟩
  rw [hn, hm] at HK
  rw [hn] at H H2 x1 ⊢
  rw [hm] at H ⊢
  have HN := Lib.hid hn; clear hn
  have HM := Lib.hid hm; clear hm
  have u0 := (Ext.refl w).alloc (.cells #[.slice a0 n c0, .slice a1 m c1, .slice a2 n c2, .slice a3 n c3] 30)
  have b0 := Box.new w 30 #[.slice a0 n c0, .slice a1 m c1, .slice a2 n c2, .slice a3 n c3] rfl
  go_enter Try.func12, Try.ntmps12
  go_wp2_with fail
  refine (implIsFlow_c _ T _ X _ (H.out.ext u0) (H2.out.ext u0)).mono ?_
  rw [HB.out, HT.out]
  rintro e w1 ⟨rfl, u1⟩
  have b1 := b0.ext u1
  have y0 := b1.cell 0 (by simp)
  have y1 := b1.cell 1 (by simp)
  have y2 := b1.cell 2 (by simp)
  have y3 := b1.cell 3 (by simp)
  have v1 := u0.trans u1
  go_wp2_with fail
  refine (nextFlow_c T X a0 a1 a2 a3 ax c0 c1 c2 c3 cx n m _ HN.out HM.out (H.out.ext v1) (H2.out.ext v1) HO.out HK.out.1 HK.out.2).mono ?_
  rintro e w2 ⟨v', rvs, rfl, og, u2, hc⟩
  have OG := Lib.hid (og.mono v1.size (Nat.le_refl _)); clear og
  rcases hc with ⟨hb, rfl⟩ | ⟨hb, b9, o9, n9, c9, rfl⟩
  · have HBB := Lib.hid hb; clear hb
    go_wp2
    go_ret2
    rw [HBB.out]
    exact ⟨_, rvs, rfl, OG.out, v1.trans u2⟩
  · have HBB := Lib.hid hb; clear hb
    go_wp2
    go_ret2
    rw [HBB.out]
    exact ⟨_, rvs, rfl, OG.out, v1.trans u2⟩
end Go.Proofs.Ytjpomfdmgaambaa
