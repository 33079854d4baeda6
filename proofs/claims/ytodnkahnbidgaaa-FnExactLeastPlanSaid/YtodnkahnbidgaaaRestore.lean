/- The flow with what is left, the program's: restore. -/
import Derived.Test.YtodnkahnbidgaaaResid
import Derived.Test.YtodnkahnbidgaaaGrow
namespace Go.Proofs.Ytodnkahnbidgaaa
open Go.RowKit
open Fm

/-- a matrix of n rows and m columns -/
structure Rc (n m : Nat) (X : List (List Int)) : Prop where
  len : X.length = n
  row : ∀ u, u < n → (rowAt X u).length = m
theorem Rc.set {n m : Nat} {R : List (List Int)} (h : Rc n m R) {u v : Nat} (x : Int) : Rc n m (R.set u ((rowAt R u).set v x)) :=
  ⟨by simp [h.len], fun k hk => by
    rw [rowAt_set]; split
    · rename_i e; obtain ⟨rfl, _⟩ := e; simp [h.row _ hk]
    · exact h.row k hk⟩
theorem Rc.el_set {n m : Nat} {R : List (List Int)} (h : Rc n m R) {u v : Nat} (hu : u < n) (hv : v < m) (x : Int) (a b : Nat) : elOf (R.set u ((rowAt R u).set v x)) a b = if a = u ∧ b = v then x else elOf R a b := by
  unfold elOf
  rw [rowAt_set]
  by_cases e : a = u
  · subst e
    rw [if_pos ⟨rfl, by rw [h.len]; exact hu⟩, ix_set]
    by_cases e2 : b = v
    · subst e2; rw [if_pos ⟨rfl, by rw [h.row _ hu]; exact hv⟩, if_pos ⟨rfl, rfl⟩]
    · rw [if_neg (fun h => e2 h.1), if_neg (fun h => e2 h.2)]
  · rw [if_neg (fun h => e h.1), if_neg (fun h => e h.1)]
theorem Within.rc {T : Tr} {x : List (List Int)} (h : Within T x) : Rc T.rows.length T.cols.length x := ⟨h.1, fun u hu => (h.2 u hu).1⟩
def restD (n : Nat) (hi x r : Nat → Nat → Int) (P : Nat → Nat → Bool) (i j : Nat) : Int := if P i j = true then hi i j - r i (n + j) else x i j

set_option maxRecDepth 100000 in
set_option maxHeartbeats 6400000 in
theorem restore_c (v : Value) (T : Tr) (v2 : Value) (x : List (List Int)) (v3 : Value) (R : List (List Int)) (fixed : Int) (w : World) (h : TrR w v T) (h2 : Grid w v2 x) (h3 : Grid w v3 R) (ho : TrOk T) (hx : Rc T.rows.length T.cols.length x)
    (hR : T.rows.length ≤ R.length ∧ ∀ i, i < T.rows.length → T.rows.length + T.cols.length ≤ (rowAt R i).length) (hb : ∀ i j, i < T.rows.length → j < T.cols.length → -1000000000 ≤ elOf R i (T.rows.length + j) ∧ elOf R i (T.rows.length + j) ≤ 1000000000000) (hf : -1 ≤ fixed ∧ fixed ≤ 1000) :
    Calls Try.prog 113 #[v, v2, v3, .int .i64 fixed] w fun e w' => ∃ (v' : Value) (rvs : List Value) (X : List (List Int)), e = .returned v' ∧ OwnG w.heap.size w'.heap.size w' v' rvs X ∧ Rc T.rows.length T.cols.length X ∧
      (∀ i j, i < T.rows.length → j < T.cols.length → elOf X i j = restD T.rows.length (elOf T.hi) (elOf x) (elOf R) (pastB T.cols.length fixed) i j) ∧ Ext w w' := by
  have H := Lib.hid h
  have HX := Lib.hid h2
  have HO := Lib.hid ho; clear ho
  have HIN := Lib.hid hx; clear hx
  have HRR := Lib.hid hR; clear hR
  have HBD := Lib.hid hb; clear hb
  obtain ⟨a0, c0, a1, c1, a2, c2, a3, c3, rfl, n0, n1, n2, n3⟩ := h.form
  clear h
  obtain ⟨ax, cx, rfl, p1, p2, p3⟩ := h2
  clear p3
  obtain ⟨ar, cr, rfl, p4, p5, p6⟩ := h3
  have GR := Lib.hid p6; clear p6
  obtain ⟨d1, d2, d3, d4, d5, d6⟩ := HO.out.dims
  have D6 := Lib.hid d6; clear d6 d5
  obtain ⟨n, hn⟩ : ∃ n, T.rows.length = n := ⟨_, rfl⟩
  obtain ⟨m, hm⟩ : ∃ m, T.cols.length = m := ⟨_, rfl⟩
  rw [hn] at n0 d1 d2
  rw [hm] at n1 d3 d4
  rw [hn, hm] at HIN HRR HBD
  have u0 := (Ext.refl w).alloc (.cells #[.slice a0 n c0, .slice a1 m c1, .slice a2 T.lo.length c2, .slice a3 T.hi.length c3] 38)
  have b0 := Box.new w 38 #[.slice a0 n c0, .slice a1 m c1, .slice a2 T.lo.length c2, .slice a3 T.hi.length c3] rfl
  have k0 := b0.cell 0 (by simp)
  have k1 := b0.cell 1 (by simp)
  have HN := Lib.hid hn
  have HM := Lib.hid hm
  rw [hn, hm]
  clear hn hm
  have hxn := HIN.out.len
  have HXN := Lib.hid hxn; clear hxn
  have hrn := HRR.out.1
  go_enter Try.func113, Try.ntmps113
  go_wp2_with fail
  go_quiet (fail)
  go_wp2_with fail
  refine (copyMatrix_c _ x _ (HX.out.ext (u0.drewN _)) (by rw [HXN.out]; omega) (fun k hk => by rw [HIN.out.row k (by rw [← HXN.out]; exact hk)]; omega) (fun k hk e => by have := HIN.out.row k (by rw [← HXN.out]; exact hk); rw [e] at this; simp at this; omega)).mono ?_
  rintro e w1 ⟨v', rvs, rfl, o1, u1⟩
  have v1 := (u0.drewN nq).trans u1
  have hb := (b0.drewN nq).ext u1
  obtain ⟨ao, cap, rfl, q1, q2, q3⟩ := o1
  rw [HXN.out] at q1 ⊢
  obtain ⟨hi, hhi⟩ : ∃ hi, w1.heap.size = hi := ⟨_, rfl⟩
  rw [hhi] at q3
  have q4 : OwnGA (w.heap.size + 1) hi w1 ao rvs x := q3.mono (by simp) (Nat.le_refl _)
  have HHI := Lib.hid hhi; clear hhi
  have HG1 := Lib.hid q4; clear q3 q4
  clear u0 b0 k0 k1
  go_wp2
  go_loopw [24] (fun i wr => ∃ (k : Nat) (X : List (List Int)), k ≤ n ∧ i = .int .i64 k ∧ OwnGA (w.heap.size + 1) hi wr ao rvs X ∧ Rc n m X ∧ (∀ a b, a < n → b < m → elOf X a b = restD n (elOf T.hi) (elOf x) (elOf R) (pastUp m fixed k 0) a b) ∧ hi ≤ wr.heap.size ∧ Box wr w.heap.size 38 #[.slice a0 n c0, .slice a1 m c1, .slice a2 T.lo.length c2, .slice a3 T.hi.length c3] ∧ Ext w wr) (fun i _ => n - (intOf i).toNat)
  case atStart => exact ⟨0, x, Nat.zero_le _, rfl, HG1.out, HIN.out, fun a b _ _ => by unfold restD; rw [pastUp_zero]; simp, by rw [HHI.out]; exact Nat.le_refl _, hb, v1⟩
  case round =>
    clear hb v1 u1 HG1 HHI
    obtain ⟨k, X, hk, rfl, hG, hS, hE, hsz, hb, hx⟩ := hrel
    obtain ⟨wo, rfl⟩ : ∃ wo : World, wo = wr := ⟨_, rfl⟩
    have HG := Lib.hid hG; clear hG
    have HS := Lib.hid hS; clear hS
    have HE := Lib.hid hE; clear hE
    by_cases hlt : k < n
    · obtain ⟨bg, og, q5, _, _, _, hcp, _⟩ := HG.out.at_ (k := k) (by rw [HS.out.len]; exact hlt)
      obtain ⟨ap, cp, evp, ip1, ip2⟩ := HG.out.rowForm (k := k) (by rw [HS.out.len]; exact hlt)
      rw [evp, HS.out.row k hlt] at hcp
      rw [HS.out.row k hlt] at ip1 evp
      have EVP := Lib.hid evp; clear evp
      have HAO := Lib.hid q5
      subst q5
      have hmul := mul_le8 (k := k) (m := m) (by omega) d4
      go_wp2
      go_loopw [32] (fun i wr => ∃ (l : Nat) (X : List (List Int)), l ≤ m ∧ i = .int .i64 l ∧ OwnGA (w.heap.size + 1) hi wr (some ⟨bg, og, none⟩) rvs X ∧ Rc n m X ∧ (∀ a b, a < n → b < m → elOf X a b = restD n (elOf T.hi) (elOf x) (elOf R) (pastUp m fixed k l) a b) ∧ hi ≤ wr.heap.size ∧ Box wr w.heap.size 38 #[.slice a0 n c0, .slice a1 m c1, .slice a2 T.lo.length c2, .slice a3 T.hi.length c3] ∧ Ext w wr) (fun i _ => m - (intOf i).toNat)
      case atStart => exact ⟨0, X, Nat.zero_le _, rfl, HG.out, HS.out, HE.out, hsz, hb, hx⟩
      case round =>
        clear hb hx HG HS HE hsz
        obtain ⟨l, X, hl, rfl, hG, hS, hE, hsz, hb, hx⟩ := hrel
        obtain ⟨wi, rfl⟩ : ∃ wi : World, wi = wr := ⟨_, rfl⟩
        have HG := Lib.hid hG; clear hG
        have HS := Lib.hid hS; clear hS
        have HE := Lib.hid hE; clear hE
        by_cases hlt2 : l < m
        · by_cases hpast : fixed < (k : Int) * (m : Int) + (l : Int)
          · obtain ⟨a3', c3', e3, _, _, g3⟩ := H.out.f3.ext hx
            simp only [Value.slice.injEq, true_and] at e3
            obtain ⟨rfl, rfl⟩ := e3
            obtain ⟨bh, oh, ah, ch, rfl, hch, h1_, h2_, h3_⟩ := g3.at_ (k := k) (by rw [D6.out, HN.out]; exact hlt)
            have hrl := (HO.out.rowlen (i := k) (by rw [HN.out]; exact hlt)).2
            rw [HM.out] at hrl
            obtain ⟨b7, o7, rfl, hx7⟩ := h3_ l (by rw [hrl]; exact hlt2)
            have hev : ix (rowAt T.hi k) l = elOf T.hi k l := rfl
            rw [hev] at hx7
            rw [hrl] at hch h1_
            clear h3_ hev hrl g3
            have y3 := hb.cell 3 (by simp)
            obtain ⟨br, or, arr, crr, rfl, hcr0, r1_, r2_, r3_⟩ := GR.out.at_ (k := k) (by omega)
            have hrr := HRR.out.2 k hlt
            obtain ⟨b8, o8, rfl, hx80⟩ := r3_ (n + l) (by omega)
            have hev : ix (rowAt R k) (n + l) = elOf R k (n + l) := rfl
            rw [hev] at hx80
            have hx8 := Ext.cell hx hx80
            have hcr := Ext.cell hx hcr0
            clear r3_ hev hx80 hcr0
            have hbd := HBD.out k l hlt hlt2
            have hce := HO.out.cell (i := k) (j := l) (by rw [HN.out]; exact hlt) (by rw [HM.out]; exact hlt2)
            have hce' : cellOk (elOf T.lo k l) (elOf T.hi k l) := hce
            unfold cellOk at hce'
            clear hce
            obtain ⟨V, hV⟩ : ∃ X, elOf R k (n + l) = X := ⟨_, rfl⟩
            obtain ⟨Hh, hHh⟩ : ∃ X, elOf T.hi k l = X := ⟨_, rfl⟩
            obtain ⟨Ll, hLl⟩ : ∃ X, elOf T.lo k l = X := ⟨_, rfl⟩
            rw [hV] at hx8 hbd
            rw [hHh] at hx7 hce'
            rw [hLl] at hce'
            have HXV := Lib.hid hV; clear hV
            have HHV := Lib.hid hHh; clear hHh hLl
            obtain ⟨bg', og', q5, _, _, _, hcp', _⟩ := HG.out.at_ (k := k) (by rw [HS.out.len]; exact hlt)
            simp only [Option.some.injEq, Addr.mk.injEq, and_true] at q5
            obtain ⟨rfl, rfl⟩ := q5
            rw [EVP.out] at hcp'
            have hst1 := HG.out.store (k := k) (l := l) (by rw [HS.out.len]; exact hlt) (by rw [HS.out.row k hlt]; exact hlt2) EVP.out
            obtain ⟨bp, op, q3, lp1, lp2, lp3, hce1, hfe, st1⟩ := hst1
            subst q3
            have G3 := Lib.hid (st1 (Hh - V)); clear st1
            have HQ3 := Lib.hid (HS.out.set (u := k) (v := l) (Hh - V))
            have HE3 := Lib.hid (HS.out.el_set hlt hlt2 (Hh - V))
            have hb2 := Lib.hid (hb.setOther (a := ⟨bp, op + l, none⟩) (by simp only; omega) (.int .i64 (Hh - V)))
            have HX2 := Lib.hid (hx.setCell (a := ⟨bp, op + l, none⟩) (.int .i64 (Hh - V)) (by simp only; omega))
            have HPA := Lib.hid hpast
            have hkh : k < T.hi.length := by rw [D6.out, HN.out]; exact hlt
            have hkr : k < R.length := by omega
            have hrr2 : n + l < (rowAt R k).length := by omega
            go_wp2_with fail
            go_region
            go_wp2
            go_roundw
            case rel =>
              refine ⟨l + 1, _, by omega, by go_num, G3.out.ext ((Ext.refl _).drewN 1), HQ3.out, fun a b ha hb => ?_, by simpa only [World.size_drew, World.size_setCell] using hsz, hb2.out, HX2.out.drewN 1⟩
              rw [HE3.out a b, HE.out a b ha hb]
              unfold restD
              by_cases e : a = k ∧ b = l
              · obtain ⟨rfl, rfl⟩ := e
                rw [if_pos ⟨rfl, rfl⟩, if_pos (pastUp_at HPA.out), HXV.out, HHV.out]
              · rw [if_neg e, pastUp_else a b e]
            case measure => simp [intOf]; omega
          · have HSK := Lib.hid hpast
            go_wp2
            go_roundw
            case rel => exact ⟨l + 1, X, by omega, by go_num, HG.out, HS.out, fun a b ha hb => by rw [HE.out a b ha hb]; unfold restD; rw [pastUp_skip HSK.out], hsz, hb, hx⟩
            case measure => simp [intOf]; omega
        · have hlm : l = m := by omega
          have HE' : Hid (∀ a b, a < n → b < m → elOf X a b = restD n (elOf T.hi) (elOf x) (elOf R) (pastUp m fixed (k + 1) 0) a b) := Lib.hid (fun a b ha hb => by
            rw [HE.out a b ha hb, hlm]; unfold restD; rw [pastUp_next fixed k hb])
          clear hlm
          go_wp2
          go_roundw
          case rel => exact ⟨k + 1, X, by omega, by go_num, HG.out, HS.out, HE'.out, hsz, hb, hx⟩
          case measure => simp [intOf]; omega
    · have hkn : k = n := by omega
      have HE' : Hid (∀ a b, a < n → b < m → elOf X a b = restD n (elOf T.hi) (elOf x) (elOf R) (pastB m fixed) a b) := Lib.hid (fun a b ha hb => by
        rw [HE.out a b ha hb, hkn]; unfold restD; rw [pastUp_all (n := n) fixed ha])
      clear hkn
      go_wp2
      go_ret
      exact ⟨.slice ao n cap, rvs, X, rfl, ⟨ao, cap, by rw [HS.out.len], by rw [HS.out.len]; exact q1, q2, HG.out.mono (by omega) hsz⟩, HS.out, HE'.out, hx⟩
end Go.Proofs.Ytodnkahnbidgaaa
