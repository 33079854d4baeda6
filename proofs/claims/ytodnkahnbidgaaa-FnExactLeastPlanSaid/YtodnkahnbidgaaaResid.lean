/- What is left between rows and columns, the program's: residual. -/
import Derived.Test.YtodnkahnbidgaaaFill0
import Derived.Test.YtodnkahnbidgaaaFlowOk
namespace Go.Proofs.Ytodnkahnbidgaaa
open Go.RowKit
open Fm

/-- the matrix x lies within the bounds -/
def Within (T : Tr) (x : List (List Int)) : Prop := x.length = T.rows.length ∧ ∀ i, i < T.rows.length → (rowAt x i).length = T.cols.length ∧ ∀ j, j < T.cols.length → elOf T.lo i j ≤ elOf x i j ∧ elOf x i j ≤ elOf T.hi i j

set_option maxRecDepth 100000 in
set_option maxHeartbeats 6400000 in
theorem residual_c (v : Value) (T : Tr) (v2 : Value) (x : List (List Int)) (fixed : Int) (w : World) (h : TrR w v T) (h2 : Grid w v2 x) (ho : TrOk T) (hx : Within T x) (hf : -1 ≤ fixed ∧ fixed ≤ 1000) :
    Calls Try.prog 76 #[v, v2, .int .i64 fixed] w fun e w' => ∃ (ao : Option Addr) (rvs : List Value) (R : List (List Int)), e = .returned (.slice ao (T.rows.length + T.cols.length) (T.rows.length + T.cols.length)) ∧
      OwnGA w.heap.size w'.heap.size w' ao rvs R ∧ Sq (T.rows.length + T.cols.length) R ∧
      (∀ a b, a < T.rows.length + T.cols.length → b < T.rows.length + T.cols.length → elOf R a b = resD T.rows.length (elOf T.lo) (elOf T.hi) (elOf x) (pastB T.cols.length fixed) a b) ∧ Ext w w' := by
  have H := Lib.hid h
  have HX := Lib.hid h2
  have HO := Lib.hid ho; clear ho
  have HIN := Lib.hid hx; clear hx
  obtain ⟨a0, c0, a1, c1, a2, c2, a3, c3, rfl, n0, n1, n2, n3⟩ := h.form
  clear h
  obtain ⟨ax, cx, rfl, p1, p2, p3⟩ := h2
  have GX := Lib.hid p3; clear p3
  obtain ⟨d1, d2, d3, d4, d5, d6⟩ := HO.out.dims
  have D5 := Lib.hid d5; clear d5
  have D6 := Lib.hid d6; clear d6
  obtain ⟨n, hn⟩ : ∃ n, T.rows.length = n := ⟨_, rfl⟩
  obtain ⟨m, hm⟩ : ∃ m, T.cols.length = m := ⟨_, rfl⟩
  rw [hn] at n0 d1 d2
  rw [hm] at n1 d3 d4
  have u0 := (Ext.refl w).alloc (.cells #[.slice a0 n c0, .slice a1 m c1, .slice a2 T.lo.length c2, .slice a3 T.hi.length c3] 38)
  have b0 := Box.new w 38 #[.slice a0 n c0, .slice a1 m c1, .slice a2 T.lo.length c2, .slice a3 T.hi.length c3] rfl
  have k0 := b0.cell 0 (by simp)
  have k1 := b0.cell 1 (by simp)
  have HN := Lib.hid hn
  have HM := Lib.hid hm
  have hmk := run_make_row' (P := Try.prog) 22 36 (.slice none 0 0) 24 Try.underlying22 info_ints rfl .i64 .i64 (n + m) (by omega) (by omega)
  have hmk2 := run_make_row' (P := Try.prog) 36 3 (.int .i64 0) 8 Try.underlying36 info_int rfl .i64 .i64 (n + m) (by omega) (by omega)
  simp only [Int.natCast_add] at hmk hmk2
  rw [hn, hm]
  clear hn hm
  have hxn : x.length = n := by rw [HIN.out.1, HN.out]
  have HXN := Lib.hid hxn; clear hxn
  rw [HXN.out] at p1 HX ⊢
  go_enter Try.func76, Try.ntmps76
  go_wp2_with fail
  go_quiet (fail)
  go_wp2
  go_loopw [27] (fun i wr => ∃ (k : Nat) (rvs : List Value) (R : List (List Int)), k ≤ n + m ∧ i = .int .i64 k ∧ R.length = n + m ∧ OwnGA (w.heap.size + 1) wr.heap.size wr (some ⟨w.heap.size + 1, 0, none⟩) rvs R ∧ (∀ j, j < k → rowAt R j = List.replicate (n + m) 0) ∧ Box wr w.heap.size 38 #[.slice a0 n c0, .slice a1 m c1, .slice a2 T.lo.length c2, .slice a3 T.hi.length c3] ∧ Ext w wr) (fun i _ => n + m - (intOf i).toNat)
  case atStart =>
    refine ⟨0, List.replicate (n + m) (.slice none 0 0), List.replicate (n + m) [], Nat.zero_le _, rfl, List.length_replicate, ?_, fun j hj => by omega, (b0.drewN _).alloc _, (u0.drewN _).alloc _⟩
    exact OwnGA.made _ (n + m) _ (by simp) (Nat.le_refl _) (by simp)
  case round =>
    obtain ⟨k, rvs, R, hk, rfl, hRl, hG, hR, hb, hx⟩ := hrel
    obtain ⟨wo, rfl⟩ : ∃ wo : World, wo = wr := ⟨_, rfl⟩
    have HG := Lib.hid hG; clear hG
    have HR := Lib.hid hR; clear hR
    have HRL := Lib.hid hRl; clear hRl
    by_cases hlt : k < n + m
    · obtain ⟨b', o', e', q1, q2, q3, hc, hf⟩ := HG.out.at_ (k := k) (by rw [HRL.out]; exact hlt)
      simp only [Option.some.injEq, Addr.mk.injEq, and_true] at e'
      obtain ⟨rfl, rfl⟩ := e'
      rw [Nat.zero_add] at hc hf
      have E1 := (Ext.refl wo).alloc (.cells (madeCells #[.int .i64 0] (n + m)) 3)
      have hc1 := Ext.cell E1 hc
      have hf1 : (wo.alloc (.cells (madeCells #[.int .i64 0] (n + m)) 3)).frozen? ⟨w.heap.size + 1, k, none⟩ = false := by
        obtain ⟨_, _, e'', _, _, _, _, hf''⟩ := (HG.out.ext E1).at_ (k := k) (by rw [HRL.out]; exact hlt)
        simp only [Option.some.injEq, Addr.mk.injEq, and_true] at e''
        obtain ⟨rfl, rfl⟩ := e''
        rw [Nat.zero_add] at hf''; exact hf''
      have hput := HG.out.putRow (k := k) (by rw [HRL.out]; exact hlt) E1 (Own.made wo (n + m) (Nat.le_refl _) (Nat.lt_succ_self _) (by omega)) (by omega) (Nat.le_succ _)
      rw [Nat.zero_add, alloc_setCell q3] at hput
      have HPUT := Lib.hid hput; clear hput
      go_wp2
      go_roundw
      case rel =>
        refine ⟨k + 1, _, _, by omega, by go_num, ?_, by have h9 := HPUT.out; simpa only [World.size_alloc, World.size_setCell] using h9, fun j hj => ?_, (hb.setOther (by simp) _).alloc _, (hx.setCell _ (by simp only; omega)).alloc _⟩
        · simp [HRL.out]
        · rw [rowAt_set]
          by_cases e : j = k
          · rw [if_pos ⟨e, by rw [HRL.out]; exact hlt⟩]
          · rw [if_neg (fun h => e h.1)]; exact HR.out j (by omega)
      case measure => simp [intOf]; omega
    · -- all rows made
      obtain ⟨hi, hhi⟩ : ∃ hi, wo.heap.size = hi := ⟨_, rfl⟩
      have hG := HG.out
      rw [hhi] at hG
      have hwl : w.heap.size + 1 < hi := by
        have := HG.out.range (by intro e; have := HRL.out; rw [e] at this; simp at this; omega)
        simp only [ablk] at this; omega
      have HG1 := Lib.hid hG; clear hG
      have HHI := Lib.hid hhi; clear hhi
      have HSQ : Hid (Sq (n + m) R) := Lib.hid ⟨HRL.out, fun u hu => by rw [HR.out u (by omega)]; simp⟩
      have HEL : Hid (∀ a b, a < n + m → b < n + m → elOf R a b = resD n (elOf T.lo) (elOf T.hi) (elOf x) (pastUp m fixed 0 0) a b) := Lib.hid (fun a b ha hb => by
        rw [resD_none (pastUp_zero m fixed)]
        unfold elOf
        rw [HR.out a (by omega), ix_replicate hb])
      clear HR HRL HG
      go_wp2
      go_loopw [40] (fun i wr => ∃ (k : Nat) (R : List (List Int)), k ≤ n ∧ i = .int .i64 k ∧ OwnGA (w.heap.size + 1) hi wr (some ⟨w.heap.size + 1, 0, none⟩) rvs R ∧ Sq (n + m) R ∧ (∀ a b, a < n + m → b < n + m → elOf R a b = resD n (elOf T.lo) (elOf T.hi) (elOf x) (pastUp m fixed k 0) a b) ∧ hi ≤ wr.heap.size ∧ Box wr w.heap.size 38 #[.slice a0 n c0, .slice a1 m c1, .slice a2 T.lo.length c2, .slice a3 T.hi.length c3] ∧ Ext w wr) (fun i _ => n - (intOf i).toNat)
      case atStart => exact ⟨0, R, Nat.zero_le _, rfl, HG1.out, HSQ.out, HEL.out, by rw [HHI.out]; exact Nat.le_refl _, hb, hx⟩
      case round =>
        clear hb hx HG1 HHI HSQ HEL
        obtain ⟨k, R, hk, rfl, hG, hS, hE, hsz, hb, hx⟩ := hrel
        obtain ⟨wo, rfl⟩ : ∃ wo : World, wo = wr := ⟨_, rfl⟩
        have HG := Lib.hid hG; clear hG
        have HS := Lib.hid hS; clear hS
        have HE := Lib.hid hE; clear hE
        by_cases hlt : k < n
        · obtain ⟨bx, ox, axx, cxx, rfl, hcx, x1_, x2_, x3_⟩ := GX.out.at_ (k := k) (by rw [HXN.out]; exact hlt)
          have hxk : (rowAt x k).length = m := by rw [(HIN.out.2 k (by rw [HN.out]; exact hlt)).1, HM.out]
          rw [hxk] at hcx x1_
          have HXK := Lib.hid hxk; clear hxk
          have X3 := Lib.hid x3_; clear x3_
          have ecx := Ext.cell hx hcx
          clear hcx
          have hmul := mul_le8 (k := k) (m := m) (by omega) d4
          go_wp2
          go_loopw [47] (fun i wr => ∃ (l : Nat) (R : List (List Int)), l ≤ m ∧ i = .int .i64 l ∧ OwnGA (w.heap.size + 1) hi wr (some ⟨w.heap.size + 1, 0, none⟩) rvs R ∧ Sq (n + m) R ∧ (∀ a b, a < n + m → b < n + m → elOf R a b = resD n (elOf T.lo) (elOf T.hi) (elOf x) (pastUp m fixed k l) a b) ∧ hi ≤ wr.heap.size ∧ Box wr w.heap.size 38 #[.slice a0 n c0, .slice a1 m c1, .slice a2 T.lo.length c2, .slice a3 T.hi.length c3] ∧ Ext w wr) (fun i _ => m - (intOf i).toNat)
          case atStart => exact ⟨0, R, Nat.zero_le _, rfl, HG.out, HS.out, HE.out, hsz, hb, hx⟩
          case round =>
            clear hb hx HG HS HE hsz
            obtain ⟨l, R, hl, rfl, hG, hS, hE, hsz, hb, hx⟩ := hrel
            obtain ⟨wi, rfl⟩ : ∃ wi : World, wi = wr := ⟨_, rfl⟩
            have HG := Lib.hid hG; clear hG
            have HS := Lib.hid hS; clear hS
            have HE := Lib.hid hE; clear hE
            by_cases hlt2 : l < m
            · obtain ⟨b5, o5, rfl, hx5⟩ := X3.out l (by rw [HXK.out]; exact hlt2)
              have f5 := Ext.cell hx hx5
              have hbd := (HIN.out.2 k (by rw [HN.out]; exact hlt)).2 l (by rw [HM.out]; exact hlt2)
              have hce := HO.out.cell (i := k) (j := l) (by rw [HN.out]; exact hlt) (by rw [HM.out]; exact hlt2)
              have hce' : cellOk (elOf T.lo k l) (elOf T.hi k l) := hce
              unfold cellOk at hce'
              clear hce hx5
              have hev : ix (rowAt x k) l = elOf x k l := rfl
              rw [hev] at f5
              clear hev
              by_cases hpast : fixed < (k : Int) * (m : Int) + (l : Int)
              · -- the two elements
                have hTH := H.out.f3.ext hx
                have hTL := H.out.f2
                obtain ⟨a3', c3', e3, _, _, g3⟩ := hTH
                obtain ⟨a2', c2', e2, _, _, g2⟩ := hTL
                simp only [Value.slice.injEq, true_and] at e3 e2
                obtain ⟨rfl, rfl⟩ := e3
                obtain ⟨rfl, rfl⟩ := e2
                obtain ⟨bh, oh, ah, ch, rfl, hch, h1_, h2_, h3_⟩ := g3.at_ (k := k) (by rw [D6.out, HN.out]; exact hlt)
                obtain ⟨bl, ol, al, cl, rfl, hcl, l1_, l2_, l3_⟩ := g2.at_ (k := k) (by rw [D5.out, HN.out]; exact hlt)
                have hrl := HO.out.rowlen (i := k) (by rw [HN.out]; exact hlt)
                rw [HM.out] at hrl
                obtain ⟨b7, o7, rfl, hx7⟩ := h3_ l (by rw [hrl.2]; exact hlt2)
                obtain ⟨b6, o6, rfl, hx6⟩ := l3_ l (by rw [hrl.1]; exact hlt2)
                have hev : ix (rowAt T.hi k) l = elOf T.hi k l := rfl
                have hev2 : ix (rowAt T.lo k) l = elOf T.lo k l := rfl
                rw [hev] at hx7
                rw [hev2] at hx6
                rw [hrl.2] at hch h1_
                rw [hrl.1] at hcl l1_
                clear h3_ l3_ hev hev2 hrl g3 g2
                have y2 := hb.cell 2 (by simp)
                have y3 := hb.cell 3 (by simp)
                obtain ⟨X, hX⟩ : ∃ X, elOf x k l = X := ⟨_, rfl⟩
                obtain ⟨Hh, hHh⟩ : ∃ X, elOf T.hi k l = X := ⟨_, rfl⟩
                obtain ⟨Ll, hLl⟩ : ∃ X, elOf T.lo k l = X := ⟨_, rfl⟩
                rw [hX] at f5 hbd
                rw [hHh] at hx7 hbd hce'
                rw [hLl] at hx6 hbd hce'
                have HXV := Lib.hid hX; clear hX
                have HHV := Lib.hid hHh; clear hHh
                have HLV := Lib.hid hLl; clear hLl
                -- the first store
                have hkN : k < n + m := by omega
                have hlN : n + l < n + m := by omega
                obtain ⟨bg, og, q2, _, _, _, hcp, _⟩ := HG.out.at_ (k := k) (by rw [HS.out.len]; exact hkN)
                simp only [Option.some.injEq, Addr.mk.injEq, and_true] at q2
                obtain ⟨rfl, rfl⟩ := q2
                obtain ⟨ap, cp, evp, ip1, ip2⟩ := HG.out.rowForm (k := k) (by rw [HS.out.len]; exact hkN)
                have hst1 := HG.out.store (k := k) (l := n + l) (by rw [HS.out.len]; exact hkN) (by rw [HS.out.row k hkN]; exact hlN) evp
                rw [evp, HS.out.row k hkN, Nat.zero_add] at hcp
                rw [HS.out.row k hkN] at ip1
                obtain ⟨bp, op, q3, lp1, lp2, lp3, hce1, hfe, st1⟩ := hst1
                subst q3
                have G3 := Lib.hid (st1 (Hh - X)); clear st1 evp
                have hq3 := HS.out.set (u := k) (v := n + l) (Hh - X)
                have hel3 := elOf_set HS.out hkN hlN (Hh - X)
                obtain ⟨R3, hR3⟩ : ∃ R3, R.set k ((rowAt R k).set (n + l) (Hh - X)) = R3 := ⟨_, rfl⟩
                rw [hR3] at G3 hq3 hel3
                have HQ3 := Lib.hid hq3; clear hq3
                have HE3 := Lib.hid hel3; clear hel3 hR3
                -- the second
                obtain ⟨bg, og, q2, _, _, _, hcu, _⟩ := G3.out.at_ (k := n + l) (by rw [HQ3.out.len]; exact hlN)
                simp only [Option.some.injEq, Addr.mk.injEq, and_true] at q2
                obtain ⟨rfl, rfl⟩ := q2
                obtain ⟨au, cu, evu, iu1, iu2⟩ := G3.out.rowForm (k := n + l) (by rw [HQ3.out.len]; exact hlN)
                have hst2 := G3.out.store (k := n + l) (l := k) (by rw [HQ3.out.len]; exact hlN) (by rw [HQ3.out.row _ hlN]; exact hkN) evu
                rw [evu, HQ3.out.row _ hlN, Nat.zero_add] at hcu
                rw [HQ3.out.row _ hlN] at iu1
                obtain ⟨bu, ou, q3, lu1, lu2, lu3, hce2, hfe2, st2⟩ := hst2
                subst q3
                have G4 := Lib.hid (st2 (X - Ll)); clear st2 evu
                have hb1 := hb.setOther (a := ⟨bp, op + (n + l), none⟩) (by simp only; omega) (.int .i64 (Hh - X))
                have z2 := hb1.cell 2 (by simp)
                have hU1 := (Upd.refl (S := fun b => b = bp) wi).setCell (a := ⟨bp, op + (n + l), none⟩) (.int .i64 (Hh - X)) (fun _ => rfl)
                have hbel : ∀ {b o : Nat} {v : Value}, w.cell? ⟨b, o, none⟩ = some v → (wi.setCell ⟨bp, op + (n + l), none⟩ (.int .i64 (Hh - X))).cell? ⟨b, o, none⟩ = some v := fun hc => (hx.setCell (a := ⟨bp, op + (n + l), none⟩) _ (by simp only; omega)).cell hc
                have hcl1 := hbel hcl
                have hx61 := hbel hx6
                have hkh : k < T.hi.length := by rw [D6.out, HN.out]; exact hlt
                have hkl : k < T.lo.length := by rw [D5.out, HN.out]; exact hlt
                have hb2 := Lib.hid (hb1.setOther (a := ⟨bu, ou + k, none⟩) (by simp only; omega) (.int .i64 (X - Ll)))
                have HX2 := Lib.hid ((hx.setCell (a := ⟨bp, op + (n + l), none⟩) (.int .i64 (Hh - X)) (by simp only; omega)).setCell (a := ⟨bu, ou + k, none⟩) (.int .i64 (X - Ll)) (by simp only; omega))
                have HPA := Lib.hid hpast
                clear hb1 hU1 hbel hcl hx6
                go_wp2_with fail
                go_region
                go_wp2_with fail
                go_region
                go_wp2
                go_roundw
                case rel =>
                  refine ⟨l + 1, R3.set (n + l) ((rowAt R3 (n + l)).set k (X - Ll)), by omega, by go_num, G4.out.ext ((Ext.refl _).drewN 2), HQ3.out.set _, fun a b ha hb => ?_, by simpa only [World.size_drew, World.size_setCell] using hsz, hb2.out, HX2.out.drewN 2⟩
                  rw [elOf_set HQ3.out hlN hkN, HE3.out a b, HE.out a b ha hb, resD_step hlt (pastUp_at HPA.out) (fun i j => pastUp_else i j), HXV.out, HLV.out, HHV.out]
                case measure => simp [intOf]; omega
              · have HSK := Lib.hid hpast
                go_wp2
                go_roundw
                case rel => exact ⟨l + 1, R, by omega, by go_num, HG.out, HS.out, fun a b ha hb => by rw [HE.out a b ha hb]; exact (resD_congr (m := m) (fun i j _ _ => pastUp_skip HSK.out i j) ha hb).symm, hsz, hb, hx⟩
                case measure => simp [intOf]; omega
            · have hlm : l = m := by omega
              have HE' : Hid (∀ a b, a < n + m → b < n + m → elOf R a b = resD n (elOf T.lo) (elOf T.hi) (elOf x) (pastUp m fixed (k + 1) 0) a b) := Lib.hid (fun a b ha hb => by
                rw [HE.out a b ha hb, hlm]; exact (resD_congr (m := m) (fun i j _ hj => pastUp_next fixed k hj) ha hb).symm)
              clear hlm
              go_wp2
              go_roundw
              case rel => exact ⟨k + 1, R, by omega, by go_num, HG.out, HS.out, HE'.out, hsz, hb, hx⟩
              case measure => simp [intOf]; omega
        · have hkn : k = n := by omega
          have HE' : Hid (∀ a b, a < n + m → b < n + m → elOf R a b = resD n (elOf T.lo) (elOf T.hi) (elOf x) (pastB m fixed) a b) := Lib.hid (fun a b ha hb => by
            rw [HE.out a b ha hb, hkn]; exact resD_congr (m := m) (P := pastB m fixed) (fun i j hi _ => pastUp_all (m := m) fixed hi) ha hb)
          clear hkn
          go_wp2
          go_ret
          exact ⟨some ⟨w.heap.size + 1, 0, none⟩, rvs, R, rfl, HG.out.mono (by omega) hsz, HS.out, HE'.out, hx⟩
end Go.Proofs.Ytodnkahnbidgaaa
