/- A path from what is left of a row to what is left of a column, the spec's: augment. -/
import Derived.Test.YtodnkahnbidgaaaSpush
import Derived.Test.YtodnkahnbidgaaaHold
namespace Go.Proofs.Ytodnkahnbidgaaa
open Go.RowKit
open Fm

def natsI (vis : List Nat) : List Int := vis.map fun (v : Nat) => (v : Int)
theorem natsI_length (vis : List Nat) : (natsI vis).length = vis.length := by simp [natsI]
theorem natsI_snoc (vis : List Nat) (v : Nat) : natsI (vis ++ [v]) = natsI vis ++ [(v : Int)] := by simp [natsI]
theorem ix_natsI {vis : List Nat} {k : Nat} (h : k < vis.length) : ix (natsI vis) k = (vat vis k : Int) := by simp [ix, natsI, vat, List.getD, h]
def srcB (n : Nat) (rs : List Int) (j : Nat) : Bool := decide (j < n) && decide (0 < ix rs j)
def NoSink (n : Nat) (cs : List Int) (vis : List Nat) (h : Nat) : Prop := ∀ i, i < h → n ≤ vat vis i → ix cs (vat vis i - n) ≤ 0
theorem NoSink.add {n h v : Nat} {cs : List Int} {vis : List Nat} (hc : NoSink n cs vis h) (hh : h ≤ vis.length) : NoSink n cs (vis ++ [v]) h := fun i hi hn => by
  rw [vat_left (by omega)] at hn ⊢
  exact hc i hi hn
theorem NoSink.next {n h : Nat} {cs : List Int} {vis : List Nat} (hc : NoSink n cs vis h) (hp : n ≤ vat vis h → ix cs (vat vis h - n) ≤ 0) : NoSink n cs vis (h + 1) := fun i hi hn => by
  by_cases e : i = h
  · subst e; exact hp hn
  · exact hc i (by omega) hn
theorem IRow.keepA {lo a b : Nat} {w w' : World} {v : Value} {xs ys : List Int} {ao : Option Addr} (h : IRow lo w v xs) (hg : w.grownBy w' v.ownBlock) (ho : OwnA a b w ao ys) (hb : b ≤ lo) : OwnA a b w' ao ys :=
  ho.away (Upd.of_grown hg) (fun c hc => by have := (h.blk hc).1; omega)
theorem IRow.cellAt {lo : Nat} {w : World} {ao : Option Addr} {n c : Nat} {xs : List Int} (h : IRow lo w (.slice ao n c) xs) {k : Nat} (hk : k < xs.length) : ∃ b o, ao = some ⟨b, o, none⟩ ∧ w.cell? ⟨b, o + k, none⟩ = some (.int .i64 (ix xs k)) := by
  obtain ⟨_, _, e, _, _, g⟩ := (h.own (Nat.le_refl _)).ints
  simp only [Value.slice.injEq] at e
  obtain ⟨rfl, _, rfl⟩ := e
  exact g k hk
/-- what augment leaves -/
def AugPost (lo fb mid hi : Nat) (u0 w : World) (F : FV) (T : Tr) (X : List (List Int)) (rs cs : List Int) (e : Ending) (w' : World) : Prop :=
  ((e = .returned (.bool true) ∧ ∃ (X' : List (List Int)) (rs' cs' : List Int), FillS lo fb mid hi u0 w' F T X' rs' cs' ∧ SFill T X' rs' cs' ∧ rs'.sum < rs.sum) ∨
   (e = .returned (.bool false) ∧ FillS lo fb mid hi u0 w' F T X rs cs ∧ ∃ A B, Cert (NetT T) (elOf X) A B)) ∧ Upd (fun b => lo ≤ b ∧ b < hi) w w'

set_option maxRecDepth 100000 in
set_option maxHeartbeats 12800000 in
theorem aug_c (lo fb mid hi : Nat) (u0 w : World) (F : FV) (T : Tr) (X : List (List Int)) (rs cs : List Int) (h : FillS lo fb mid hi u0 w F T X rs cs) (ho : TrOk T) (hs : SFill T X rs cs) :
    Calls Try.prog 112 #[.pointer (some ⟨fb, 0, none⟩)] w (AugPost lo fb mid hi u0 w F T X rs cs) := by
  have HF := Lib.hid h; clear h
  have HO := Lib.hid ho; clear ho
  have HS := Lib.hid hs; clear hs
  have hd := HO.out.dims
  have d2 := hd.2.1
  have d4 := hd.2.2.2.1
  clear hd
  have hlow := HF.out.low
  have hcap := HF.out.cap
  have b0 := HF.out.box
  obtain ⟨n, hn⟩ : ∃ n, T.rows.length = n := ⟨_, rfl⟩
  obtain ⟨m, hm⟩ : ∃ m, T.cols.length = m := ⟨_, rfl⟩
  have k5 := b0.cell 5 (by simp)
  have k6 := b0.cell 6 (by simp)
  rw [hn] at k5 k6 d2 hcap
  rw [hm] at k6 d4 hcap
  obtain ⟨N, hN⟩ : ∃ N, n + m = N := ⟨_, rfl⟩
  have eN : (n : Int) + (m : Int) = (N : Int) := by omega
  have HNM := Lib.hid hN; clear hN
  have hN16 : N ≤ 16 := by have := HNM.out; omega
  have hnN : n ≤ N := by have := HNM.out; omega
  have HCAP := Lib.hid hcap; clear hcap
  have HN := Lib.hid hn; clear hn
  have HM := Lib.hid hm; clear hm
  have hmk := run_make_row' (P := Try.prog) 36 3 (.int .i64 0) 8 Try.underlying36 info_int rfl .i64 .i64 N (by omega) (by omega)
  go_enter Try.func112, Try.ntmps112
  go_wp2_with fail
  go_quiet (fail)
  have x0 : Ext w (w.drewN nq) := (Ext.refl w).drewN nq
  have hsz0 : (w.drewN nq).heap.size = w.heap.size := rfl
  obtain ⟨w1, hw1⟩ : ∃ w1, w.drewN nq = w1 := ⟨_, rfl⟩
  rw [hw1] at x0 hsz0 ⊢
  have HSZ := Lib.hid hsz0; clear hsz0 hw1
  have HF1 := Lib.hid (HF.out.carry x0)
  have hlow1 : hi ≤ w1.heap.size := HF1.out.low.2.2.2.2
  go_wp2
  go_loopw [6, 27] (fun q i wr => ∃ (k : Nat) (B : List Int), k ≤ N ∧ i = .int .i64 k ∧ B.length = N ∧ (∀ j, j < k → ix B j = if srcB n rs j = true then -1 else -2) ∧ OwnA w1.heap.size (w1.heap.size + 1) wr (some ⟨w1.heap.size, 0, none⟩) B ∧ IRow (w1.heap.size + 1) wr q (natsI (srcs (srcB n rs) k)) ∧ Ext w1 wr) (fun _ i _ => N - (intOf i).toNat)
  case atStart =>
    refine ⟨0, List.replicate N 0, Nat.zero_le _, rfl, by simp, fun j hj => by omega, ?_, IRow.nil, (Ext.refl w1).alloc _⟩
    have hr := World.rowIs_made w1 (.int .i64 0) N 3
    obtain ⟨c, hc1, hc2, hc3⟩ := hr
    exact .inr ⟨w1.heap.size, 0, c, rfl, Nat.le_refl _, by omega, hc1, fun k hk => by
      simp at hk
      rw [Nat.zero_add, hc3 k hk]; simp [ix, List.getD, hk]⟩
  case round =>
    obtain ⟨k, B, hk, rfl, hBl, hBn, hBA, hQ, hx⟩ := hrel
    obtain ⟨wi, rfl⟩ : ∃ wi : World, wi = wr := ⟨_, rfl⟩
    have HBL := Lib.hid hBl; clear hBl
    have HBN := Lib.hid hBn; clear hBn
    have HBA := Lib.hid hBA; clear hBA
    have HQ := Lib.hid hQ; clear hQ
    obtain ⟨aq, cq, evq⟩ := HQ.out.form
    subst evq
    have hsl := srcs_length (srcB n rs) k
    have hql := natsI_length (srcs (srcB n rs) k)
    have hszi := hx.size
    by_cases hlt : k < N
    · obtain ⟨b', o', e', _, _, hbl, hc, hf⟩ := HBA.out.at_ (k := k) (by rw [HBL.out]; exact hlt)
      simp only [Option.some.injEq, Addr.mk.injEq, and_true] at e'
      obtain ⟨rfl, rfl⟩ := e'
      rw [Nat.zero_add] at hc hf
      have hset := HBA.out.set (k := k) (by rw [HBL.out]; exact hlt) (-2)
      rw [Nat.zero_add] at hset
      have HSET := Lib.hid hset; clear hset
      have hxs := hx.setCell (a := ⟨w1.heap.size, k, none⟩) (.int .i64 (-2)) (Nat.le_refl _)
      have HXS := Lib.hid hxs
      have HQS := Lib.hid (HQ.out.put (a := ⟨w1.heap.size, k, none⟩) (by simp) (.int .i64 (-2)))
      have y5 := Ext.cell (x0.trans hxs) k5
      have hsu := srcs_succ (srcB n rs) k
      have hkeep : ∀ (x : Int), (srcB n rs k = true → x = -1) → (srcB n rs k = false → x = -2) → ∀ j, j < k + 1 → ix (B.set k x) j = if srcB n rs j = true then -1 else -2 := fun x h1 h2 j hj => by
        rw [ix_set]
        by_cases e : j = k
        · subst e
          rw [if_pos ⟨rfl, by rw [HBL.out]; exact hlt⟩]
          cases hh : srcB n rs j
          · rw [h2 hh]; simp
          · rw [h1 hh]; simp
        · rw [if_neg (fun h => e h.1)]; exact HBN.out j (by omega)
      have HKEEP := Lib.hid hkeep; clear hkeep
      clear hql
      by_cases hkn : k < n
      · obtain ⟨br, or, er, _, _, _, hcr, _⟩ := HF1.out.gr.at_ (k := k) (by rw [HS.out.rl, HN.out]; exact hkn)
        have hcr2 := Ext.cell hxs hcr
        rw [er] at y5
        clear er hcr
        by_cases hp : 0 < ix rs k
        · have hsb : srcB n rs k = true := by simp [srcB, hkn, hp]
          rw [if_pos hsb] at hsu
          have HSU := Lib.hid hsu; clear hsu
          have HKP := Lib.hid (HKEEP.out (-1) (fun _ => rfl) (fun h => by rw [hsb] at h; cases h)); clear hsb
          obtain ⟨_, _, e', _, _, _, hc2, hf2⟩ := HSET.out.at_ (k := k) (by simp [HBL.out]; exact hlt)
          simp only [Option.some.injEq, Addr.mk.injEq, and_true] at e'
          obtain ⟨rfl, rfl⟩ := e'
          rw [Nat.zero_add] at hc2 hf2
          have hset2 := HSET.out.set (k := k) (by simp [HBL.out]; exact hlt) (-1)
          rw [Nat.zero_add, List.set_set] at hset2
          have hxt := hxs.setCell (a := ⟨w1.heap.size, k, none⟩) (.int .i64 (-1)) (Nat.le_refl _)
          have E1 := (Ext.refl ((wi.setCell ⟨w1.heap.size, k, none⟩ (.int .i64 (-2))).setCell ⟨w1.heap.size, k, none⟩ (.int .i64 (-1)))).alloc (.cells #[.int .i64 k] 3)
          have HSET2 := Lib.hid (hset2.ext E1); clear hset2
          have HXT := Lib.hid (hxt.trans E1)
          have hown := (HQS.out.put (a := ⟨w1.heap.size, k, none⟩) (by simp) (.int .i64 (-1))).ext E1
          have HOWN := Lib.hid hown
          unfold IRow at hown
          have HOW2 := Lib.hid hown; clear hown E1
          have hql : (natsI (srcs (srcB n rs) k)).length ≤ k := by rw [natsI_length]; exact hsl
          go_wp2_with (at_builtin; go_loud (refine app1 _ rfl _ _ 36 3 rfl (.int .i64 0) 8 Try.underlying36 info_int rfl (w1.heap.size + 1) _ (natsI (srcs (srcB n rs) k)).length _ rfl HOW2.out wi.heap.size 1 3 (.int .i64 k) rfl (Box.new _ _ _ (by simp [World.setCell])) rfl (by omega) (by omega) (by simp [World.setCell]; omega) ?_))
          intro g cp w3 hown3 hgrow hat hlt3
          have HX3 := Lib.hid (HOWN.out.grew HXT.out (Nat.le_succ _) hgrow)
          have HB3 := Lib.hid (HOWN.out.keepA hgrow HSET2.out (Nat.le_refl _))
          have HO3 := Lib.hid hown3; clear hown3 hgrow
          go_wp2
          go_roundw
          case rel => exact ⟨k + 1, _, by omega, by go_num, by simp [HBL.out], HKP.out, HB3.out, by rw [HSU.out, natsI_snoc]; exact IRow.push (by simpa using HO3.out), HX3.out⟩
          case measure => simp [intOf]; omega
        · have hsb : srcB n rs k = false := by simp [srcB, hp]
          rw [if_neg (by rw [hsb]; simp)] at hsu
          have HSU := Lib.hid hsu; clear hsu
          have HKP := Lib.hid (HKEEP.out (-2) (fun h => by rw [hsb] at h; cases h) (fun _ => rfl)); clear hsb
          go_wp2
          go_roundw
          case rel => exact ⟨k + 1, _, by omega, by go_num, by simp [HBL.out], HKP.out, HSET.out, by rw [HSU.out]; exact HQS.out, HXS.out⟩
          case measure => simp [intOf]; omega
      · have hsb : srcB n rs k = false := by simp [srcB, hkn]
        rw [if_neg (by rw [hsb]; simp)] at hsu
        have HSU := Lib.hid hsu; clear hsu
        have HKP := Lib.hid (HKEEP.out (-2) (fun h => by rw [hsb] at h; cases h) (fun _ => rfl)); clear hsb
        go_wp2
        go_roundw
        case rel => exact ⟨k + 1, _, by omega, by go_num, by simp [HBL.out], HKP.out, HSET.out, by rw [HSU.out]; exact HQS.out, HXS.out⟩
        case measure => simp [intOf]; omega
    · have hkN : k = N := by omega
      have hst := Mbfs.start (r := roomT T X) (src := srcB n rs) HBL.out (fun v hv => HBN.out v (by omega))
      have HST := Lib.hid hst; clear hst
      have HQ0 : Hid (IRow (w1.heap.size + 1) wi (.slice aq (natsI (srcs (srcB n rs) k)).length cq) (natsI (srcs (srcB n rs) N))) := Lib.hid (by rw [← hkN]; exact HQ.out)
      clear hkN hql
      go_wp2
      go_loopg [6, 8] N (fun gk q at_ wr => ∃ (B : List Int) (vis : List Nat) (h : Nat), at_ = .int .i64 h ∧ N ≤ h + gk ∧ h ≤ vis.length ∧ Mbfs N (roomT T X) (srcB n rs) B vis ∧ Closed N (roomT T X) vis h ∧ NoSink n cs vis h ∧ OwnA w1.heap.size (w1.heap.size + 1) wr (some ⟨w1.heap.size, 0, none⟩) B ∧ IRow (w1.heap.size + 1) wr q (natsI vis) ∧ Ext w1 wr)
      case atStart => exact ⟨B, srcs (srcB n rs) N, 0, rfl, by omega, Nat.zero_le _, HST.out, Closed.zero, fun i hi => by omega, HBA.out, HQ0.out, hx⟩
      case round =>
        obtain ⟨B, vis, h, rfl, hgk, hh, hBf, hCl, hNs, hBA, hQ, hx⟩ := hrel
        obtain ⟨wi, rfl⟩ : ∃ wi : World, wi = wr := ⟨_, rfl⟩
        have HBF := Lib.hid hBf; clear hBf
        have HCL := Lib.hid hCl; clear hCl
        have HNS := Lib.hid hNs; clear hNs
        have HBA := Lib.hid hBA; clear hBA
        have HQ := Lib.hid hQ; clear hQ
        have hvN := HBF.out.length_le
        obtain ⟨aq, cq, evq⟩ := HQ.out.form
        subst evq
        have hql := natsI_length vis
        have hqlI : (natsI vis).length = vis.length := hql
        have HF2 := Lib.hid (HF1.out.carry hx)
        have b2 := HF2.out.box
        have y6 := b2.cell 6 (by simp)
        rw [HN.out, HM.out] at y6
        by_cases hemp : h < vis.length
        case neg =>
          have hhv : h = vis.length := by omega
          have hce := HS.out.cert (src := srcB n rs) (B := B) (vis := vis) (by rw [HN.out, HM.out, HNM.out]; exact HBF.out) (fun i hi hp => by rw [HN.out] at hi; simp [srcB, hi, hp]) (by rw [HN.out, HM.out, HNM.out, ← hhv]; exact HCL.out) (fun j hj hm => by
            obtain ⟨i, hi, ei⟩ := HBF.out.at_ hm
            have := HNS.out i (by omega) (by rw [ei, HN.out]; omega)
            rw [ei, HN.out, Nat.add_sub_cancel_left] at this
            exact this)
          have HCE := Lib.hid hce; clear hce
          have hlen : ¬ h < (natsI vis).length := by rw [natsI_length]; omega
          clear hhv hql hqlI
          go_wp2
          go_ret
          exact ⟨.inr ⟨rfl, HF2.out, HCE.out⟩, (x0.trans hx).upd⟩
        have hlen : h < (natsI vis).length := by rw [natsI_length]; omega
        obtain ⟨bq, oq, eq_, hcq⟩ := HQ.out.cellAt hlen
        rw [ix_natsI hemp] at hcq
        subst eq_
        have hvm := vat_mem hemp
        have hvL := HBF.out.lt _ hvm
        obtain ⟨v, hv⟩ : ∃ v, vat vis h = v := ⟨_, rfl⟩
        rw [hv] at hcq hvm hvL
        have HV := Lib.hid hv; clear hv hql hqlI
        have hszi := hx.size
        -- the loop over the nodes that can be reached
        have go : (n ≤ v → ix cs (v - n) ≤ 0) → True := fun _ => trivial
        clear go
        by_cases hvn : n ≤ v
        · obtain ⟨e, he⟩ : ∃ e, v = n + e := ⟨v - n, by omega⟩
          have hem : e < m := by have := HNM.out; omega
          have e1 : (v : Int) - (n : Int) = (e : Int) := by omega
          obtain ⟨bc, oc, ec, _, _, _, hcc, _⟩ := HF2.out.gc.at_ (k := e) (by rw [HS.out.cl, HM.out]; exact hem)
          rw [ec] at y6
          clear ec
          by_cases hpos : 0 < ix cs e
          · obtain ⟨s, L, c1, c2, c3, c4, c5, c6⟩ := HBF.out.chain hvm
            have c5' : s < n ∧ 0 < ix rs s := by simpa [srcB] using c5
            have hpath : PathOk T X B s L := by
              intro x hx
              have h1 := c6 x hx
              rw [HN.out, HM.out, HNM.out]
              exact ⟨h1.1, h1.2.1, h1.2.2.1, h1.2.2.2.1, h1.2.2.2.2⟩
            have HPA := Lib.hid hpath; clear hpath c6 c5
            have HC1 := Lib.hid c1; clear c1
            have HC2 := Lib.hid c2; clear c2
            have HC4 := Lib.hid c4; clear c4
            have HE := Lib.hid he; clear he
            go_wp2_with fail
            have hcon := spush_c lo fb mid hi (w1.heap.size + 1) u0 wi F T X rs cs (some ⟨w1.heap.size, 0, none⟩) N B s e L HF2.out HO.out HS.out (HBA.out.mono hlow1 (Nat.le_refl _)) (by rw [HN.out, HM.out, HNM.out]; exact HBF.out.blen) (by rw [HBF.out.blen]; omega)
              (by rw [HM.out]; exact hem) (by rw [HN.out]; exact c5'.1) HC4.out (by rw [HN.out, ← HE.out]; exact HC1.out) HC2.out HPA.out c5'.2 hpos
            rw [HN.out, HM.out, HNM.out, ← HE.out] at hcon
            refine hcon.mono ?_
            rintro e9 w9 ⟨rfl, X', rs', cs', f1, f2, f3, u9⟩
            have HR1 := Lib.hid f1; clear f1
            have HR2 := Lib.hid f2; clear f2
            clear hcon
            go_wp2
            go_ret
            exact ⟨.inl ⟨rfl, X', rs', cs', HR1.out, HR2.out, f3⟩, (x0.trans hx).upd.trans u9⟩
          · have HNP : Hid (n ≤ vat vis h → ix cs (vat vis h - n) ≤ 0) := Lib.hid (fun _ => by rw [HV.out, he, Nat.add_sub_cancel_left]; omega)
            clear he
            have HBA1 := HBA
            go_wp2
            go_loopw [6, 10] (fun q i wr => ∃ (l : Nat) (B' : List Int) (vis' : List Nat), l ≤ N ∧ i = .int .i64 l ∧ Mbfs N (roomT T X) (srcB n rs) B' vis' ∧ Closed N (roomT T X) vis' h ∧ NoSink n cs vis' h ∧ Part (roomT T X) vis' h l ∧ h < vis'.length ∧ vat vis' h = v ∧ OwnA w1.heap.size (w1.heap.size + 1) wr (some ⟨w1.heap.size, 0, none⟩) B' ∧ IRow (w1.heap.size + 1) wr q (natsI vis') ∧ Ext w1 wr) (fun _ i _ => N - (intOf i).toNat)
            case atStart => exact ⟨0, B, vis, Nat.zero_le _, rfl, HBF.out, HCL.out, HNS.out, Part.zero, hemp, HV.out, HBA.out, HQ.out, hx⟩
            case round =>
              obtain ⟨l, B', vis', hl, rfl, hBf, hCl, hNs, hPa, hhv, hvu, hBA', hQ', hx'⟩ := hrel
              obtain ⟨wi', rfl⟩ : ∃ wi' : World, wi' = wr := ⟨_, rfl⟩
              have HBF' := Lib.hid hBf; clear hBf
              have HCL' := Lib.hid hCl; clear hCl
              have HNS' := Lib.hid hNs; clear hNs
              have HPA := Lib.hid hPa; clear hPa
              have HVU := Lib.hid hvu; clear hvu
              have HBA' := Lib.hid hBA'; clear hBA'
              have HQ' := Lib.hid hQ'; clear hQ'
              obtain ⟨aq', cq', evq⟩ := HQ'.out.form
              subst evq
              have hszi' := hx'.size
              have hvN' := HBF'.out.length_le
              by_cases hl2 : l < N
              · obtain ⟨bb, ob, eb, _, _, hblt, hcb, hfb⟩ := HBA'.out.at_ (k := l) (by rw [HBF'.out.blen]; exact hl2)
                simp only [Option.some.injEq, Addr.mk.injEq, and_true] at eb
                obtain ⟨rfl, rfl⟩ := eb
                rw [Nat.zero_add] at hcb hfb
                have hrg := HBF'.out.range hl2
                have HF3 := Lib.hid (HF1.out.carry hx')
                have hvT : v < T.rows.length + T.cols.length := by rw [HN.out, HM.out, HNM.out]; exact hvL
                have hlT : l < T.rows.length + T.cols.length := by rw [HN.out, HM.out, HNM.out]; exact hl2
                have hrb := HS.out.roomB HO.out hvT hlT
                by_cases hneg : ix B' l = -2
                · have hq2 : (ix B' l == -2) = true := by simp [hneg]
                  have hnm : l ∉ vis' := (HBF'.out.mem_iff hl2).2 hneg
                  have HNM2 := Lib.hid hnm; clear hnm hneg
                  obtain ⟨R, hR⟩ : ∃ R, roomT T X v l = R := ⟨_, rfl⟩
                  rw [hR] at hrb
                  have HR := Lib.hid hR; clear hR
                  by_cases hpos : 0 < R
                  · have hadd := HBF'.out.add hhv hl2 HNM2.out (by rw [HVU.out, HR.out]; exact hpos)
                    rw [HVU.out] at hadd
                    have HADD := Lib.hid hadd; clear hadd
                    go_wp2_with fail
                    refine (room_c lo fb mid hi u0 _ F T X rs cs v l HF3.out HO.out HS.out hvT hlT).mono ?_
                    rw [HR.out]
                    rintro e9 w9 ⟨rfl, d9⟩
                    have hx9 := hx'.trans d9.ext
                    have HB9 := Lib.hid (HBA'.out.ext d9.ext)
                    have HQ9 := Lib.hid (HQ'.out.ext d9.ext)
                    clear hcb hfb
                    obtain ⟨_, _, eb, _, _, hblt, hcb, hfb⟩ := HB9.out.at_ (k := l) (by rw [HBF'.out.blen]; exact hl2)
                    simp only [Option.some.injEq, Addr.mk.injEq, and_true] at eb
                    obtain ⟨rfl, rfl⟩ := eb
                    rw [Nat.zero_add] at hcb hfb
                    have hset := HB9.out.set (k := l) (by rw [HBF'.out.blen]; exact hl2) (v : Int)
                    rw [Nat.zero_add] at hset
                    have E1 := (Ext.refl (w9.setCell ⟨w1.heap.size, l, none⟩ (.int .i64 v))).alloc (.cells #[.int .i64 l] 3)
                    have HSET := Lib.hid (hset.ext E1); clear hset
                    have HXP := Lib.hid ((hx9.setCell (a := ⟨w1.heap.size, l, none⟩) (.int .i64 v) (Nat.le_refl _)).trans E1)
                    have hown := (HQ9.out.put (a := ⟨w1.heap.size, l, none⟩) (by simp) (.int .i64 v)).ext E1
                    have HOWN := Lib.hid hown
                    unfold IRow at hown
                    have HOW2 := Lib.hid hown; clear hown E1
                    have hql' : (natsI vis').length ≤ N := by rw [natsI_length]; exact hvN'
                    have hs9 := hx9.size
                    go_wp2_with (at_builtin; go_loud (refine app1 _ rfl _ _ 36 3 rfl (.int .i64 0) 8 Try.underlying36 info_int rfl (w1.heap.size + 1) _ (natsI vis').length _ rfl HOW2.out w9.heap.size 1 3 (.int .i64 l) rfl (Box.new _ _ _ (by simp [World.setCell])) rfl (by omega) (by omega) (by simp [World.setCell]; omega) ?_))
                    intro g cp w3 hown3 hgrow hat hlt3
                    have HX3 := Lib.hid (HOWN.out.grew HXP.out (Nat.le_succ _) hgrow)
                    have HB3 := Lib.hid (HOWN.out.keepA hgrow HSET.out (Nat.le_refl _))
                    have HO3 := Lib.hid hown3; clear hown3 hgrow
                    go_wp2
                    go_roundw
                    case rel => exact ⟨l + 1, _, vis' ++ [l], by omega, by go_num, HADD.out, HCL'.out.add (by omega), HNS'.out.add (by omega), HPA.out.add hhv, by simp; omega, by rw [vat_left hhv]; exact HVU.out, HB3.out, by rw [natsI_snoc]; exact IRow.push (by simpa using HO3.out), HX3.out⟩
                    case measure => simp [intOf]; omega
                  · have HNP2 : Hid (0 < roomT T X (vat vis' h) l → l ∈ vis') := Lib.hid (fun hh => absurd (by rw [HVU.out, HR.out] at hh; exact hh) hpos)
                    go_wp2_with fail
                    refine (room_c lo fb mid hi u0 _ F T X rs cs v l HF3.out HO.out HS.out hvT hlT).mono ?_
                    rw [HR.out]
                    rintro e9 w9 ⟨rfl, d9⟩
                    go_wp2
                    go_roundw
                    case rel => exact ⟨l + 1, B', vis', by omega, by go_num, HBF'.out, HCL'.out, HNS'.out, HPA.out.keep HNP2.out, hhv, HVU.out, HBA'.out.ext d9.ext, HQ'.out.ext d9.ext, hx'.trans d9.ext⟩
                    case measure => simp [intOf]; omega
                · have hq2 : (ix B' l == -2) = false := by simp [hneg]
                  have hm : l ∈ vis' := by
                    apply Classical.byContradiction
                    intro hc
                    exact hneg (HBF'.out.neg l hl2 hc)
                  have HM2 := Lib.hid hm; clear hm hneg
                  go_wp2
                  go_roundw
                  case rel => exact ⟨l + 1, B', vis', by omega, by go_num, HBF'.out, HCL'.out, HNS'.out, HPA.out.keep (fun _ => HM2.out), hhv, HVU.out, HBA'.out, HQ'.out, hx'⟩
                  case measure => simp [intOf]; omega
              · have hlN : l = N := by omega
                have HPN := Lib.hid (show Part (roomT T X) vis' h N by rw [← hlN]; exact HPA.out)
                have HNP2 := Lib.hid (show n ≤ vat vis' h → ix cs (vat vis' h - n) ≤ 0 by rw [HVU.out, ← HV.out]; exact HNP.out)
                clear hlN
                go_wp2
                go_roundg (gk - 1)
                case rel => exact ⟨B', vis', h + 1, by go_num, by omega, by omega, HBF'.out, HCL'.out.next HPN.out, HNS'.out.next HNP2.out, HBA'.out, HQ'.out, hx'⟩
                case measure => omega
        · have HNP : Hid (n ≤ vat vis h → ix cs (vat vis h - n) ≤ 0) := Lib.hid (fun hh => absurd (by rw [HV.out] at hh; exact hh) hvn)
          have HBA1 := HBA
          go_wp2
          go_loopw [6, 10] (fun q i wr => ∃ (l : Nat) (B' : List Int) (vis' : List Nat), l ≤ N ∧ i = .int .i64 l ∧ Mbfs N (roomT T X) (srcB n rs) B' vis' ∧ Closed N (roomT T X) vis' h ∧ NoSink n cs vis' h ∧ Part (roomT T X) vis' h l ∧ h < vis'.length ∧ vat vis' h = v ∧ OwnA w1.heap.size (w1.heap.size + 1) wr (some ⟨w1.heap.size, 0, none⟩) B' ∧ IRow (w1.heap.size + 1) wr q (natsI vis') ∧ Ext w1 wr) (fun _ i _ => N - (intOf i).toNat)
          case atStart => exact ⟨0, B, vis, Nat.zero_le _, rfl, HBF.out, HCL.out, HNS.out, Part.zero, hemp, HV.out, HBA.out, HQ.out, hx⟩
          case round =>
            obtain ⟨l, B', vis', hl, rfl, hBf, hCl, hNs, hPa, hhv, hvu, hBA', hQ', hx'⟩ := hrel
            obtain ⟨wi', rfl⟩ : ∃ wi' : World, wi' = wr := ⟨_, rfl⟩
            have HBF' := Lib.hid hBf; clear hBf
            have HCL' := Lib.hid hCl; clear hCl
            have HNS' := Lib.hid hNs; clear hNs
            have HPA := Lib.hid hPa; clear hPa
            have HVU := Lib.hid hvu; clear hvu
            have HBA' := Lib.hid hBA'; clear hBA'
            have HQ' := Lib.hid hQ'; clear hQ'
            obtain ⟨aq', cq', evq⟩ := HQ'.out.form
            subst evq
            have hszi' := hx'.size
            have hvN' := HBF'.out.length_le
            by_cases hl2 : l < N
            · obtain ⟨bb, ob, eb, _, _, hblt, hcb, hfb⟩ := HBA'.out.at_ (k := l) (by rw [HBF'.out.blen]; exact hl2)
              simp only [Option.some.injEq, Addr.mk.injEq, and_true] at eb
              obtain ⟨rfl, rfl⟩ := eb
              rw [Nat.zero_add] at hcb hfb
              have hrg := HBF'.out.range hl2
              have HF3 := Lib.hid (HF1.out.carry hx')
              have hvT : v < T.rows.length + T.cols.length := by rw [HN.out, HM.out, HNM.out]; exact hvL
              have hlT : l < T.rows.length + T.cols.length := by rw [HN.out, HM.out, HNM.out]; exact hl2
              have hrb := HS.out.roomB HO.out hvT hlT
              by_cases hneg : ix B' l = -2
              · have hq2 : (ix B' l == -2) = true := by simp [hneg]
                have hnm : l ∉ vis' := (HBF'.out.mem_iff hl2).2 hneg
                have HNM2 := Lib.hid hnm; clear hnm hneg
                obtain ⟨R, hR⟩ : ∃ R, roomT T X v l = R := ⟨_, rfl⟩
                rw [hR] at hrb
                have HR := Lib.hid hR; clear hR
                by_cases hpos : 0 < R
                · have hadd := HBF'.out.add hhv hl2 HNM2.out (by rw [HVU.out, HR.out]; exact hpos)
                  rw [HVU.out] at hadd
                  have HADD := Lib.hid hadd; clear hadd
                  go_wp2_with fail
                  refine (room_c lo fb mid hi u0 _ F T X rs cs v l HF3.out HO.out HS.out hvT hlT).mono ?_
                  rw [HR.out]
                  rintro e9 w9 ⟨rfl, d9⟩
                  have hx9 := hx'.trans d9.ext
                  have HB9 := Lib.hid (HBA'.out.ext d9.ext)
                  have HQ9 := Lib.hid (HQ'.out.ext d9.ext)
                  clear hcb hfb
                  obtain ⟨_, _, eb, _, _, hblt, hcb, hfb⟩ := HB9.out.at_ (k := l) (by rw [HBF'.out.blen]; exact hl2)
                  simp only [Option.some.injEq, Addr.mk.injEq, and_true] at eb
                  obtain ⟨rfl, rfl⟩ := eb
                  rw [Nat.zero_add] at hcb hfb
                  have hset := HB9.out.set (k := l) (by rw [HBF'.out.blen]; exact hl2) (v : Int)
                  rw [Nat.zero_add] at hset
                  have E1 := (Ext.refl (w9.setCell ⟨w1.heap.size, l, none⟩ (.int .i64 v))).alloc (.cells #[.int .i64 l] 3)
                  have HSET := Lib.hid (hset.ext E1); clear hset
                  have HXP := Lib.hid ((hx9.setCell (a := ⟨w1.heap.size, l, none⟩) (.int .i64 v) (Nat.le_refl _)).trans E1)
                  have hown := (HQ9.out.put (a := ⟨w1.heap.size, l, none⟩) (by simp) (.int .i64 v)).ext E1
                  have HOWN := Lib.hid hown
                  unfold IRow at hown
                  have HOW2 := Lib.hid hown; clear hown E1
                  have hql' : (natsI vis').length ≤ N := by rw [natsI_length]; exact hvN'
                  have hs9 := hx9.size
                  go_wp2_with (at_builtin; go_loud (refine app1 _ rfl _ _ 36 3 rfl (.int .i64 0) 8 Try.underlying36 info_int rfl (w1.heap.size + 1) _ (natsI vis').length _ rfl HOW2.out w9.heap.size 1 3 (.int .i64 l) rfl (Box.new _ _ _ (by simp [World.setCell])) rfl (by omega) (by omega) (by simp [World.setCell]; omega) ?_))
                  intro g cp w3 hown3 hgrow hat hlt3
                  have HX3 := Lib.hid (HOWN.out.grew HXP.out (Nat.le_succ _) hgrow)
                  have HB3 := Lib.hid (HOWN.out.keepA hgrow HSET.out (Nat.le_refl _))
                  have HO3 := Lib.hid hown3; clear hown3 hgrow
                  go_wp2
                  go_roundw
                  case rel => exact ⟨l + 1, _, vis' ++ [l], by omega, by go_num, HADD.out, HCL'.out.add (by omega), HNS'.out.add (by omega), HPA.out.add hhv, by simp; omega, by rw [vat_left hhv]; exact HVU.out, HB3.out, by rw [natsI_snoc]; exact IRow.push (by simpa using HO3.out), HX3.out⟩
                  case measure => simp [intOf]; omega
                · have HNP2 : Hid (0 < roomT T X (vat vis' h) l → l ∈ vis') := Lib.hid (fun hh => absurd (by rw [HVU.out, HR.out] at hh; exact hh) hpos)
                  go_wp2_with fail
                  refine (room_c lo fb mid hi u0 _ F T X rs cs v l HF3.out HO.out HS.out hvT hlT).mono ?_
                  rw [HR.out]
                  rintro e9 w9 ⟨rfl, d9⟩
                  go_wp2
                  go_roundw
                  case rel => exact ⟨l + 1, B', vis', by omega, by go_num, HBF'.out, HCL'.out, HNS'.out, HPA.out.keep HNP2.out, hhv, HVU.out, HBA'.out.ext d9.ext, HQ'.out.ext d9.ext, hx'.trans d9.ext⟩
                  case measure => simp [intOf]; omega
              · have hq2 : (ix B' l == -2) = false := by simp [hneg]
                have hm : l ∈ vis' := by
                  apply Classical.byContradiction
                  intro hc
                  exact hneg (HBF'.out.neg l hl2 hc)
                have HM2 := Lib.hid hm; clear hm hneg
                go_wp2
                go_roundw
                case rel => exact ⟨l + 1, B', vis', by omega, by go_num, HBF'.out, HCL'.out, HNS'.out, HPA.out.keep (fun _ => HM2.out), hhv, HVU.out, HBA'.out, HQ'.out, hx'⟩
                case measure => simp [intOf]; omega
            · have hlN : l = N := by omega
              have HPN := Lib.hid (show Part (roomT T X) vis' h N by rw [← hlN]; exact HPA.out)
              have HNP2 := Lib.hid (show n ≤ vat vis' h → ix cs (vat vis' h - n) ≤ 0 by rw [HVU.out, ← HV.out]; exact HNP.out)
              clear hlN
              go_wp2
              go_roundg (gk - 1)
              case rel => exact ⟨B', vis', h + 1, by go_num, by omega, by omega, HBF'.out, HCL'.out.next HPN.out, HNS'.out.next HNP2.out, HBA'.out, HQ'.out, hx'⟩
              case measure => omega
end Go.Proofs.Ytodnkahnbidgaaa
