/- The matrices of the least and the greatest values, from a flow, the program's: allRanges. -/
import Derived.Test.YtginndoggpfadaaRangeW
import Derived.Test.YtginndoggpfadaaMix
namespace Go.Proofs.Ytginndoggpfadaa
open Go.RowKit
open Fm

noncomputable def lowF (T : Tr) (i j : Nat) (_ : Int) : Int := lowV T i j
noncomputable def highF (T : Tr) (i j : Nat) (_ : Int) : Int := highV T i j
/-- what a call that hands back two fresh grids leaves -/
def Ret2G (mk : Value → Value → Value) (w : World) (xs ys : List (List Int)) (e : Ending) (w' : World) : Prop :=
  ∃ v1 r1 v2 r2 mid, e = .returned (mk v1 v2) ∧ w.heap.size ≤ mid ∧ mid ≤ w'.heap.size ∧ OwnG w.heap.size mid w' v1 r1 xs ∧ OwnG mid w'.heap.size w' v2 r2 ys ∧ Ext w w'
/-- an element of a grid of the call's own is where it was, in any world further on -/
theorem OwnGA.storeAt {lo hi : Nat} {w : World} {ao : Option Addr} {rvs : List Value} {zs : List (List Int)} (h : OwnGA lo hi w ao rvs zs) {k l n cr b o : Nat} (hk : k < zs.length) (hl : l < (rowAt zs k).length) (hv : rvAt rvs k = .slice (some ⟨b, o, none⟩) n cr) :
    ∀ y, Ext w y → y.cell? ⟨b, o + l, none⟩ = some (.int .i64 (ix (rowAt zs k) l)) ∧ y.frozen? ⟨b, o + l, none⟩ = false := fun y e => by
  obtain ⟨b', o', eq_, _, _, _, h1, h2, _⟩ := (h.ext e).store hk hl hv
  simp only [Option.some.injEq, Addr.mk.injEq, and_true] at eq_
  obtain ⟨rfl, rfl⟩ := eq_
  exact ⟨h1, h2⟩

set_option maxRecDepth 100000 in
set_option maxHeartbeats 3200000 in
theorem allRanges_c (T : Tr) (X : List (List Int)) (a0 a1 a2 a3 ax : Option Addr) (c0 c1 c2 c3 cx n m : Nat) (w : World) (hn : T.rows.length = n) (hm : T.cols.length = m) (h : TrR w (.agg #[.slice a0 n c0, .slice a1 m c1, .slice a2 n c2, .slice a3 n c3]) T) (hX : Grid w (.slice ax n cx) X) (ho : TrOk T) (rc : Rc n m X) (hf : Flow (NetT T) (elOf X)) :
    Calls Try.prog 56 #[.agg #[.slice a0 n c0, .slice a1 m c1, .slice a2 n c2, .slice a3 n c3], .slice ax n cx] w (Ret2G (fun v1 v2 => .tuple #[v1, v2]) w (mapG (lowF T) X) (mapG (highF T) X)) := by
  have H := Lib.hid h; clear h
  have HX := Lib.hid hX
  obtain ⟨ax, cx, e9, _, hcx, gx⟩ := hX
  simp only [Value.slice.injEq] at e9
  obtain ⟨rfl, e8, rfl⟩ := e9
  clear e8
  have GX := Lib.hid gx; clear gx
  have HO := Lib.hid ho; clear ho
  have HRC := Lib.hid rc; clear rc
  have HF := Lib.hid hf; clear hf
  have d1 : 1 ≤ n := by rw [← hn]; exact HO.out.dims.1
  have d2 : n ≤ 8 := by rw [← hn]; exact HO.out.dims.2.1
  have d3 : 1 ≤ m := by rw [← hm]; exact HO.out.dims.2.2.1
  have d4 : m ≤ 8 := by rw [← hm]; exact HO.out.dims.2.2.2.1
  have HN := Lib.hid hn; clear hn
  have HM := Lib.hid hm; clear hm
  have u0 := (Ext.refl w).alloc (.cells #[.slice a0 n c0, .slice a1 m c1, .slice a2 n c2, .slice a3 n c3] 58)
  have b0 := Box.new w 58 #[.slice a0 n c0, .slice a1 m c1, .slice a2 n c2, .slice a3 n c3] rfl
  obtain ⟨ws, hws⟩ : ∃ ws, w.alloc (.cells #[.slice a0 n c0, .slice a1 m c1, .slice a2 n c2, .slice a3 n c3] 58) = ws := ⟨_, rfl⟩
  have hsw : ws.heap.size = w.heap.size + 1 := by rw [← hws]; simp
  rw [hws] at u0 b0
  have HWS := Lib.hid hws; clear hws
  have HSW := Lib.hid hsw; clear hsw
  have HC : Hid (X.length ≤ 1048576 ∧ (∀ k, k < X.length → (rowAt X k).length ≤ 1048576) ∧ ∀ k, k < X.length → rowAt X k ≠ []) := Lib.hid ⟨by rw [HRC.out.len]; omega, fun k hk => by rw [HRC.out.row k (by rw [← HRC.out.len]; exact hk)]; omega, fun k hk e => by
    have := HRC.out.row k (by rw [← HRC.out.len]; exact hk)
    rw [e] at this; simp at this; omega⟩
  go_enter Try.func56, Try.ntmps56
  go_wp2_with fail
  rw [HWS.out]
  refine (copyMatrix_c _ X _ (HX.out.ext u0) HC.out.1 HC.out.2.1 HC.out.2.2).mono ?_
  rintro e w1 ⟨v1, r1, rfl, og1, u1⟩
  obtain ⟨b1, g1, rfl, q1, q2, q3⟩ := og1
  have G1 := Lib.hid q3; clear q3
  go_wp2_with fail
  refine (copyMatrix_c _ X _ ((HX.out.ext u0).ext u1) HC.out.1 HC.out.2.1 HC.out.2.2).mono ?_
  rintro e w2 ⟨v2, r2, rfl, og2, u2⟩
  obtain ⟨b2, g2, rfl, p1, p2, p3⟩ := og2
  have G2 := Lib.hid p3; clear p3
  have z1 := u1.size
  have z2 := u2.size
  have G1' := Lib.hid (G1.out.ext u2)
  have hxl := HRC.out.len
  rw [hxl] at q1 p1 ⊢
  have HXL := Lib.hid hxl; clear hxl
  obtain ⟨sb1, so1, rfl, _⟩ := G1.out.at_ (k := 0) (by rw [HXL.out]; omega)
  obtain ⟨sb2, so2, rfl, _⟩ := G2.out.at_ (k := 0) (by rw [HXL.out]; omega)
  have hsw := HSW.out
  go_wp2
  go_loopw [17] (fun i wr => ∃ (k : Nat) (zs ys : List (List Int)), k ≤ n ∧ i = .int .i64 k ∧ OwnGA ws.heap.size w1.heap.size wr (some ⟨sb1, so1, none⟩) r1 zs ∧ Mix (lowF T) X zs k 0 ∧ OwnGA w1.heap.size w2.heap.size wr (some ⟨sb2, so2, none⟩) r2 ys ∧ Mix (highF T) X ys k 0 ∧ w2.heap.size ≤ wr.heap.size ∧ Ext ws wr) (fun i _ => n - (intOf i).toNat)
  case atStart => exact ⟨0, X, X, Nat.zero_le _, rfl, G1'.out, Mix.start, G2.out, Mix.start, Nat.le_refl _, u1.trans u2⟩
  case round =>
    obtain ⟨k, zs, ys, hk, rfl, hg1, hm1, hg2, hm2, hsz, hx⟩ := hrel
    have HM1 := Lib.hid hm1; clear hm1
    have HM2 := Lib.hid hm2; clear hm2
    have HG1 := Lib.hid hg1; clear hg1
    have HG2 := Lib.hid hg2; clear hg2
    by_cases hlt : k < n
    · have hkX : k < X.length := by rw [HXL.out]; exact hlt
      obtain ⟨bp, op, ap2, cp2, rfl, hcp0, s1, s2, s3⟩ := GX.out.at_ hkX
      have hcp := Ext.cell (u0.trans hx) hcp0
      clear s3 hcp0
      have hrl := HRC.out.row k hlt
      rw [hrl] at hcp s1
      have HRL := Lib.hid hrl; clear hrl
      go_wp2
      go_loopw [24] (fun i wr' => ∃ (l : Nat) (zs' ys' : List (List Int)), l ≤ m ∧ i = .int .i64 l ∧ OwnGA ws.heap.size w1.heap.size wr' (some ⟨sb1, so1, none⟩) r1 zs' ∧ Mix (lowF T) X zs' k l ∧ OwnGA w1.heap.size w2.heap.size wr' (some ⟨sb2, so2, none⟩) r2 ys' ∧ Mix (highF T) X ys' k l ∧ w2.heap.size ≤ wr'.heap.size ∧ Ext ws wr') (fun i _ => m - (intOf i).toNat)
      case atStart => exact ⟨0, zs, ys, Nat.zero_le _, rfl, HG1.out, HM1.out, HG2.out, HM2.out, hsz, hx⟩
      case round =>
        obtain ⟨l, zs', ys', hl, rfl, hg1', hm1', hg2', hm2', hsz', hx'⟩ := hrel
        obtain ⟨wi, rfl⟩ : ∃ wi : World, wi = wr := ⟨_, rfl⟩
        have HM1' := Lib.hid hm1'; clear hm1'
        have HM2' := Lib.hid hm2'; clear hm2'
        have HG1' := Lib.hid hg1'; clear hg1'
        have HG2' := Lib.hid hg2'; clear hg2'
        by_cases hl2 : l < m
        · have hz1 : k < zs'.length := by rw [HM1'.out.len]; exact hkX
          have hz2 : k < ys'.length := by rw [HM2'.out.len]; exact hkX
          have hr1 : l < (rowAt zs' k).length := by rw [HM1'.out.row k hkX, HRL.out]; exact hl2
          have hr2 : l < (rowAt ys' k).length := by rw [HM2'.out.row k hkX, HRL.out]; exact hl2
          obtain ⟨ar1, cr1, ev1, n1, n1'⟩ := HG1'.out.rowForm hz1
          obtain ⟨ar2, cr2, ev2, n2, n2'⟩ := HG2'.out.rowForm hz2
          rw [HM1'.out.row k hkX, HRL.out] at ev1 n1
          rw [HM2'.out.row k hkX, HRL.out] at ev2 n2
          obtain ⟨b4, o4, rfl, lb4, lb4', _, _, _, _⟩ := HG1'.out.store (l := l) hz1 hr1 ev1
          obtain ⟨b6, o6, rfl, lb6, lb6', _, _, _, _⟩ := HG2'.out.store (l := l) hz2 hr2 ev2
          have EV1 := Lib.hid ev1; clear ev1
          have EV2 := Lib.hid ev2; clear ev2
          obtain ⟨_, _, e3, lb3, lb3', _, hc3, _⟩ := HG1'.out.at_ hz1
          simp only [Option.some.injEq, Addr.mk.injEq, and_true] at e3
          obtain ⟨rfl, rfl⟩ := e3
          obtain ⟨_, _, e3, lb5, lb5', _, hc5, _⟩ := HG2'.out.at_ hz2
          simp only [Option.some.injEq, Addr.mk.injEq, and_true] at e3
          obtain ⟨rfl, rfl⟩ := e3
          rw [EV1.out] at hc3
          rw [EV2.out] at hc5
          have hap1 := HG1'.out.apart hz1 (by intro e; rw [e] at hr1; simp at hr1)
          rw [EV1.out] at hap1
          simp only [blk, ablk] at hap1
          have hap2 := HG2'.out.apart hz2 (by intro e; rw [e] at hr2; simp at hr2)
          rw [EV2.out] at hap2
          simp only [blk, ablk] at hap2
          have ST1 := Lib.hid (HG1'.out.storeAt (l := l) hz1 hr1 EV1.out)
          have ST2 := Lib.hid (HG2'.out.storeAt (l := l) hz2 hr2 EV2.out)
          have bo := b0.ext hx'
          have y0 : wi.cell? ⟨w.heap.size, 0, none⟩ = some (.slice a0 n c0) := bo.cell 0 (by simp)
          have y1 : wi.cell? ⟨w.heap.size, 1, none⟩ = some (.slice a1 m c1) := bo.cell 1 (by simp)
          have y2 : wi.cell? ⟨w.heap.size, 2, none⟩ = some (.slice a2 n c2) := bo.cell 2 (by simp)
          have y3 : wi.cell? ⟨w.heap.size, 3, none⟩ = some (.slice a3 n c3) := bo.cell 3 (by simp)
          obtain ⟨VL, hVL⟩ : ∃ V, lowV T k l = V := ⟨_, rfl⟩
          obtain ⟨VH, hVH⟩ : ∃ V, highV T k l = V := ⟨_, rfl⟩
          have HVL := Lib.hid hVL; clear hVL
          have HVH := Lib.hid hVH; clear hVH
          have nb4 : b4 ≠ w.heap.size ∧ b4 ≠ sb1 ∧ b4 ≠ sb2 := ⟨by omega, hap1, by omega⟩
          have nb6 : b6 ≠ w.heap.size ∧ b6 ≠ sb1 ∧ b6 ≠ sb2 := ⟨by omega, by omega, hap2⟩
          have nb46 : b4 ≠ b6 := by omega
          have keepS : ∀ (x : World) (a : Addr) (v : Value), (x.cell? ⟨w.heap.size, 0, none⟩ = some (.slice a0 n c0) ∧ x.cell? ⟨w.heap.size, 1, none⟩ = some (.slice a1 m c1) ∧ x.cell? ⟨w.heap.size, 2, none⟩ = some (.slice a2 n c2) ∧ x.cell? ⟨w.heap.size, 3, none⟩ = some (.slice a3 n c3) ∧ x.cell? ⟨sb1, so1 + k, none⟩ = some (.slice (some ⟨b4, o4, none⟩) m cr1) ∧ x.cell? ⟨sb2, so2 + k, none⟩ = some (.slice (some ⟨b6, o6, none⟩) m cr2)) →
              (a.block ≠ w.heap.size ∧ a.block ≠ sb1 ∧ a.block ≠ sb2) → ((x.setCell a v).cell? ⟨w.heap.size, 0, none⟩ = some (.slice a0 n c0) ∧ (x.setCell a v).cell? ⟨w.heap.size, 1, none⟩ = some (.slice a1 m c1) ∧ (x.setCell a v).cell? ⟨w.heap.size, 2, none⟩ = some (.slice a2 n c2) ∧ (x.setCell a v).cell? ⟨w.heap.size, 3, none⟩ = some (.slice a3 n c3) ∧ (x.setCell a v).cell? ⟨sb1, so1 + k, none⟩ = some (.slice (some ⟨b4, o4, none⟩) m cr1) ∧ (x.setCell a v).cell? ⟨sb2, so2 + k, none⟩ = some (.slice (some ⟨b6, o6, none⟩) m cr2)) :=
            fun x a v h hne => ⟨(cell_far (Ne.symm hne.1)).trans h.1, (cell_far (Ne.symm hne.1)).trans h.2.1, (cell_far (Ne.symm hne.1)).trans h.2.2.1, (cell_far (Ne.symm hne.1)).trans h.2.2.2.1, (cell_far (Ne.symm hne.2.1)).trans h.2.2.2.2.1, (cell_far (Ne.symm hne.2.2)).trans h.2.2.2.2.2⟩
          have KS := Lib.hid keepS; clear keepS
          go_wp2_with fail
          go_region_held3 (fun x => x.cell? ⟨w.heap.size, 0, none⟩ = some (.slice a0 n c0) ∧ x.cell? ⟨w.heap.size, 1, none⟩ = some (.slice a1 m c1) ∧ x.cell? ⟨w.heap.size, 2, none⟩ = some (.slice a2 n c2) ∧ x.cell? ⟨w.heap.size, 3, none⟩ = some (.slice a3 n c3) ∧ x.cell? ⟨sb1, so1 + k, none⟩ = some (.slice (some ⟨b4, o4, none⟩) m cr1) ∧ x.cell? ⟨sb2, so2 + k, none⟩ = some (.slice (some ⟨b6, o6, none⟩) m cr2))
            (first | exact ⟨Ext.cell u5 y0, Ext.cell u5 y1, Ext.cell u5 y2, Ext.cell u5 y3, Ext.cell u5 hc3, Ext.cell u5 hc5⟩ | exact KS.out _ _ _ (by assumption) nb4 | exact KS.out _ _ _ (by assumption) nb6 | go_keep)
            ((go_at_call 45; refine (rangeOf_c T X a0 a1 a2 a3 (some ⟨bp, op, none⟩) c0 c1 c2 c3 cx n m k l _ HN.out HM.out (H.out.ext (u0.trans hx').drew) (HX.out.ext (u0.trans hx').drew) HO.out HRC.out HF.out hlt hl2).mono ?_; rw [HVL.out, HVH.out]; rintro e w5 ⟨rfl, u5⟩; have f4 := (ST1.out w5 ((Ext.refl _).drew.trans u5)).2; have f6 := (ST2.out w5 ((Ext.refl _).drew.trans u5)).2; have d4 := (ST1.out w5 ((Ext.refl _).drew.trans u5)).1; have d6 := (ST2.out w5 ((Ext.refl _).drew.trans u5)).1))
          have e5 := (Ext.refl wi).drew.trans u5
          have g1' := HG1'.out.ext e5
          obtain ⟨_, _, e7, _, _, _, _, _, st1⟩ := g1'.store (l := l) hz1 hr1 EV1.out
          simp only [Option.some.injEq, Addr.mk.injEq, and_true] at e7
          obtain ⟨rfl, rfl⟩ := e7
          have g2' := (HG2'.out.ext e5).put_away ⟨b4, o4 + l, none⟩ (.int .i64 VL) (.inl (by simp only; omega))
          obtain ⟨_, _, e7, _, _, _, _, _, st2⟩ := g2'.store (l := l) hz2 hr2 EV2.out
          simp only [Option.some.injEq, Addr.mk.injEq, and_true] at e7
          obtain ⟨rfl, rfl⟩ := e7
          have GG := Lib.hid (And.intro ((st1 VL).put_away ⟨b6, o6 + l, none⟩ (.int .i64 VH) (.inr (by simp only; omega))) (st2 VH))
          have hxx := Lib.hid (((hx'.trans e5).setCell (a := ⟨b4, o4 + l, none⟩) (.int .i64 VL) (by simp only; omega)).setCell (a := ⟨b6, o6 + l, none⟩) (.int .i64 VH) (by simp only; omega))
          have hss : w2.heap.size ≤ w5.heap.size := by have := u5.size; simp at this; omega
          clear g1' g2' st1 st2 f4 f6 d4 d6
          go_wp2
          go_roundw
          case rel => exact ⟨l + 1, _, _, by omega, by go_num, GG.out.1, HM1'.out.step hkX (by rw [HRL.out]; exact hl2) HVL.out.symm, GG.out.2, HM2'.out.step hkX (by rw [HRL.out]; exact hl2) HVH.out.symm, by simp only [World.size_setCell]; exact hss, hxx.out⟩
          case measure => simp [intOf]; omega
        · have hlm : (rowAt X k).length ≤ l := by rw [HRL.out]; omega
          have HLM := Lib.hid hlm; clear hlm
          go_wp2
          go_roundw
          case rel => exact ⟨k + 1, zs', ys', by omega, by go_num, HG1'.out, HM1'.out.next HLM.out, HG2'.out, HM2'.out.next HLM.out, hsz', hx'⟩
          case measure => simp [intOf]; omega
    · have hk1 := HM1.out.done (by rw [HXL.out]; omega)
      have hk2 := HM2.out.done (by rw [HXL.out]; omega)
      subst hk1; subst hk2
      have e1 : (mapG (lowF T) X).length = n := by rw [mapG_length]; exact HXL.out
      have e2 : (mapG (highF T) X).length = n := by rw [mapG_length]; exact HXL.out
      have HEE := Lib.hid (And.intro e1 e2); clear e1 e2
      go_wp2
      go_ret2
      exact ⟨.slice (some ⟨sb1, so1, none⟩) n g1, r1, .slice (some ⟨sb2, so2, none⟩) n g2, r2, w1.heap.size, rfl, by omega, by omega, ⟨some ⟨sb1, so1, none⟩, g1, by rw [HEE.out.1], by rw [HEE.out.1]; exact q1, q2, HG1.out.mono (by omega) (Nat.le_refl _)⟩, ⟨some ⟨sb2, so2, none⟩, g2, by rw [HEE.out.2], by rw [HEE.out.2]; exact p1, p2, HG2.out.mono (Nat.le_refl _) hsz⟩, u0.trans hx⟩
end Go.Proofs.Ytginndoggpfadaa
