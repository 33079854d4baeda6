/- Sending over what is left, the program's: push. -/
import Derived.Test.YtodnkahnbidgaaaQueue
import Derived.Test.YtodnkahnbidgaaaBfs
import Derived.Test.YtodnkahnbidgaaaHold
import Derived.Test.YtodnkahnbidgaaaMix2
import Derived.Deep.LoopGhost
import Derived.Deep.CutRange
import Derived.BigRegion
namespace Go.Proofs.Ytodnkahnbidgaaa
open Go.RowKit
open Fm

def elOf (R : List (List Int)) (u v : Nat) : Int := ix (rowAt R u) v
structure Sq (N : Nat) (R : List (List Int)) : Prop where
  len : R.length = N
  row : ∀ u, u < N → (rowAt R u).length = N
theorem Sq.set {N : Nat} {R : List (List Int)} (h : Sq N R) {u v : Nat} (x : Int) : Sq N (R.set u ((rowAt R u).set v x)) :=
  ⟨by simp [h.len], fun k hk => by
    rw [rowAt_set]; split
    · rename_i e; obtain ⟨rfl, _⟩ := e; simp [h.row _ hk]
    · exact h.row k hk⟩
theorem elOf_set {N : Nat} {R : List (List Int)} (h : Sq N R) {u v : Nat} (hu : u < N) (hv : v < N) (x : Int) (a b : Nat) : elOf (R.set u ((rowAt R u).set v x)) a b = if a = u ∧ b = v then x else elOf R a b := by
  unfold elOf
  rw [rowAt_set]
  by_cases e : a = u
  · subst e
    rw [if_pos ⟨rfl, by rw [h.len]; exact hu⟩, ix_set]
    by_cases e2 : b = v
    · subst e2; rw [if_pos ⟨rfl, by rw [h.row _ hu]; exact hv⟩, if_pos ⟨rfl, rfl⟩]
    · rw [if_neg (fun h => e2 h.1), if_neg (fun h => e2 h.2)]
  · rw [if_neg (fun h => e h.1), if_neg (fun h => e h.1)]
theorem along_bound {bk : Nat → Nat} {c : Int} {l : List Nat} {r : Nat → Nat → Int} (hc : 0 ≤ c) (u v : Nat) : r u v - c ≤ along bk c l r u v ∧ along bk c l r u v ≤ r u v + c := by
  unfold along
  split <;> split <;> omega
theorem Fm.Sent.bound {N : Nat} {r r' : Nat → Nat → Int} {s t : Nat} {sent : Int} (h : Sent N r s t sent r') (hb : ∀ u v, u < N → v < N → 0 ≤ r u v ∧ r u v ≤ 1000000000) {u v : Nat} (hu : u < N) (hv : v < N) : 0 ≤ r' u v ∧ r' u v ≤ 2000000000 := by
  have h1 := h.nonneg u v hu hv
  have h2 := h.nonneg v u hv hu
  have h3 := h.pair u v hu hv
  have h4 := hb u v hu hv
  have h5 := hb v u hv hu
  omega

theorem Fm.Sent.congr {N : Nat} {r r1 r2 : Nat → Nat → Int} {s t : Nat} {sent : Int} (h : Sent N r s t sent r1) (hs : s < N) (e : ∀ u v, u < N → v < N → r2 u v = r1 u v) : Sent N r s t sent r2 :=
  ⟨fun u v hu hv => by rw [e u v hu hv]; exact h.nonneg u v hu hv, fun u v hu hv => by rw [e u v hu hv, e v u hv hu]; exact h.pair u v hu hv,
    fun u hu h1 h2 => by rw [S_congr (fun v hv => e u v hu hv)]; exact h.node u hu h1 h2, by rw [S_congr (fun v hv => e s v hs hv)]; exact h.src⟩
theorem chain_end {bk : Nat → Nat} {s u : Nat} {l : List Nat} (h : Chain bk s u l) (e : u = s) : l = [] := by
  cases l with
  | nil => rfl
  | cons a t => exact absurd e h.2.1
theorem chain_cons {bk : Nat → Nat} {s u : Nat} {l : List Nat} (h : Chain bk s u l) (e : u ≠ s) : ∃ l', l = u :: l' ∧ Chain bk s (bk u) l' := by
  cases l with
  | nil => exact absurd h e
  | cons a t => obtain ⟨rfl, _, h3⟩ := h; exact ⟨t, rfl, h3⟩

set_option maxRecDepth 100000 in
set_option maxHeartbeats 25600000 in
theorem push_c (lo hi : Nat) (ao : Option Addr) (cap : Nat) (rvs : List Value) (R : List (List Int)) (N s t : Nat) (lim : Int) (w : World) (h : OwnGA lo hi w ao rvs R) (hq : Sq N R) (_hcap : N ≤ cap ∧ cap ≤ 9223372036854775807) (hN : N ≤ 18) (hs : s < N) (ht : t < N) (hst : s ≠ t)
    (hb : ∀ u v, u < N → v < N → 0 ≤ elOf R u v ∧ elOf R u v ≤ 1000000000) (hl : -1000000000 ≤ lim ∧ lim ≤ 1000000000) (hhi : hi ≤ w.heap.size) :
    Calls Try.prog 77 #[.slice ao N cap, .int .i64 s, .int .i64 t, .int .i64 lim] w fun e w' => ∃ (sent : Int) (R' : List (List Int)), e = .returned (.int .i64 sent) ∧ OwnGA lo hi w' ao rvs R' ∧ Sq N R' ∧ Pushed N (elOf R) s t lim sent (elOf R') ∧ Upd (fun b => lo ≤ b ∧ b < hi) w w' := by
  have HG0 := Lib.hid h; clear h
  have HQ0 := Lib.hid hq; clear hq
  have HB := Lib.hid hb; clear hb
  have hmk := run_make_row' (P := Try.prog) 36 3 (.int .i64 0) 8 Try.underlying36 info_int rfl .i64 .i64 N (by omega) (by omega)
  go_enter Try.func77, Try.ntmps77
  go_wp2
  go_loopw [9] (fun s9 wr => ∃ (sent : Int) (R' : List (List Int)), s9 = .int .i64 sent ∧ OwnGA lo hi wr ao rvs R' ∧ Sq N R' ∧ Sent N (elOf R) s t sent (elOf R') ∧ 0 ≤ sent ∧ (0 ≤ lim → sent ≤ lim) ∧ Upd (fun b => lo ≤ b ∧ b < hi) w wr) (fun s9 _ => (lim - intOf s9).toNat)
  case atStart => exact ⟨0, R, rfl, HG0.out, HQ0.out, Sent.start (fun u v hu hv => (HB.out u v hu hv).1), by omega, fun h => h, Upd.refl _⟩
  case round =>
    obtain ⟨sent, R', rfl, hg, hq, hS, hsent, hle, hU⟩ := hrel
    obtain ⟨wo, rfl⟩ : ∃ wo : World, wo = wr := ⟨_, rfl⟩
    have HG := Lib.hid hg; clear hg
    have HQ := Lib.hid hq; clear hq
    have HS := Lib.hid hS; clear hS
    have HLE := Lib.hid hle; clear hle
    have HU := Lib.hid hU; clear hU
    have hszo := HU.out.size
    by_cases hlt : sent < lim
    · -- the list of whence
      go_wp2
      go_loopw [27] (fun i wr => ∃ (k : Nat) (B : List Int), k ≤ N ∧ i = .int .i64 k ∧ OwnA wo.heap.size (wo.heap.size + 1) wr (some ⟨wo.heap.size, 0, none⟩) B ∧ B.length = N ∧ (∀ j, j < k → ix B j = -1) ∧ Ext wo wr) (fun i _ => N - (intOf i).toNat)
      case atStart =>
        refine ⟨0, List.replicate N 0, Nat.zero_le _, rfl, ?_, by simp, fun j hj => by omega, (Ext.refl wo).alloc _⟩
        have hr := World.rowIs_made wo (.int .i64 0) N 3
        obtain ⟨c, hc1, hc2, hc3⟩ := hr
        exact .inr ⟨wo.heap.size, 0, c, rfl, Nat.le_refl _, by omega, hc1, fun k hk => by
          simp at hk
          rw [Nat.zero_add, hc3 k hk]; simp [ix, List.getD, hk]⟩
      case round =>
        obtain ⟨k, B, hk, rfl, hB, hBl, hBn, hx⟩ := hrel
        obtain ⟨wi, rfl⟩ : ∃ wi : World, wi = wr := ⟨_, rfl⟩
        have HBA := Lib.hid hB; clear hB
        have HBL := Lib.hid hBl; clear hBl
        have HBN := Lib.hid hBn; clear hBn
        by_cases hlt2 : k < N
        · obtain ⟨b', o', e', _, _, _, hc, hf⟩ := HBA.out.at_ (k := k) (by rw [HBL.out]; exact hlt2)
          simp only [Option.some.injEq, Addr.mk.injEq, and_true] at e'
          obtain ⟨rfl, rfl⟩ := e'
          rw [Nat.zero_add] at hc hf
          have hset := HBA.out.set (k := k) (by rw [HBL.out]; exact hlt2) (-1)
          rw [Nat.zero_add] at hset
          have HSET := Lib.hid hset; clear hset
          go_wp2
          go_roundw
          case rel => exact ⟨k + 1, B.set k (-1), by omega, by go_num, HSET.out, by simp [HBL.out], fun j hj => by
            rw [ix_set]
            by_cases e : j = k
            · subst e; rw [if_pos ⟨rfl, by rw [HBL.out]; exact hlt2⟩]
            · rw [if_neg (fun h => e h.1)]; exact HBN.out j (by omega), hx.setCell _ (Nat.le_refl _)⟩
          case measure => simp [intOf]; omega
        · -- the source, and the queue
          have hst0 := Bfs.start (r := elOf R') hs HBL.out (fun v hv => HBN.out v (by omega))
          have HST0 := Lib.hid hst0; clear hst0
          obtain ⟨b', o', e', _, _, _, hc, hf⟩ := HBA.out.at_ (k := s) (by rw [HBL.out]; exact hs)
          simp only [Option.some.injEq, Addr.mk.injEq, and_true] at e'
          obtain ⟨rfl, rfl⟩ := e'
          rw [Nat.zero_add] at hc hf
          have hset := HBA.out.set (k := s) (by rw [HBL.out]; exact hs) (s : Int)
          rw [Nat.zero_add] at hset
          have hszi := hx.size
          have hxs := hx.setCell (a := ⟨wo.heap.size, s, none⟩) (.int .i64 s) (Nat.le_refl _)
          have HX1 := Lib.hid (hxs.alloc (.cells #[.int .i64 s] 3))
          have HSET := Lib.hid (hset.ext ((Ext.refl _).alloc (.cells #[.int .i64 s] 3))); clear hset
          have hblt : wo.heap.size < wi.heap.size := by
            have := HBA.out.range (by intro e; have := HBL.out; rw [e] at this; simp at this; omega)
            simp only [ablk] at this; omega
          have hqr : QRow (wo.heap.size + 1) ((wi.setCell ⟨wo.heap.size, s, none⟩ (.int .i64 s)).alloc (.cells #[.int .i64 s] 3)) (.slice (some ⟨wi.heap.size, 0, none⟩) 1 1) [(s : Int)] :=
            QRow.one (Box.new _ _ _ (by simp [World.setCell])) (by omega)
          have HQR := Lib.hid hqr; clear hqr
          go_wp2
          go_loopg [12] N (fun gk q wr => ∃ (B : List Int) (vis : List Nat) (h : Nat), N ≤ h + gk ∧ h ≤ vis.length ∧ Bfs N (elOf R') s B vis ∧ Closed N (elOf R') vis h ∧ OwnA wo.heap.size (wo.heap.size + 1) wr (some ⟨wo.heap.size, 0, none⟩) B ∧ QRow (wo.heap.size + 1) wr q ((vis.drop h).map fun v : Nat => (v : Int)) ∧ Ext wo wr)
          case atStart => exact ⟨_, [s], 0, by omega, by simp, HST0.out, Closed.zero, HSET.out, by simpa using HQR.out, HX1.out⟩
          case round =>
            obtain ⟨B, vis, h, hgk, hh, hBf, hCl, hBA, hQ, hx⟩ := hrel
            obtain ⟨wi, rfl⟩ : ∃ wi : World, wi = wr := ⟨_, rfl⟩
            have HBF := Lib.hid hBf; clear hBf
            have HCL := Lib.hid hCl; clear hCl
            have HBA := Lib.hid hBA; clear hBA
            have hvN := HBF.out.length_le
            obtain ⟨bt, ot, et, _, _, _, hct, _⟩ := HBA.out.at_ (k := t) (by rw [HBF.out.blen]; exact ht)
            simp only [Option.some.injEq, Addr.mk.injEq, and_true] at et
            obtain ⟨rfl, rfl⟩ := et
            rw [Nat.zero_add] at hct
            have htr := HBF.out.range ht
            by_cases htn : ix B t < 0
            · by_cases hemp : h < vis.length
              case neg =>
                -- the queue is empty
                have hlen : vis.drop h = [] := List.drop_eq_nil_of_le (by omega)
                rw [hlen] at hQ
                obtain ⟨bq, oq, cq, rfl, _, _⟩ := hQ.form
                clear hQ hlen
                have hhv : h = vis.length := by omega
                have HCL' := Lib.hid (show Closed N (elOf R') vis vis.length by rw [← hhv]; exact HCL.out)
                clear hhv
                have HP := Lib.hid (show Pushed N (elOf R) s t lim sent (elOf R') from ⟨HS.out.nonneg, HS.out.pair, HS.out.node, HS.out.src, hsent, HLE.out, .inr (HBF.out.cert HCL'.out (fun u v hu hv => HS.out.nonneg u v hu hv) ht htn)⟩)
                go_wp2
                go_ret
                first | exact ⟨sent, rfl, R', HG.out.ext hx, HQ.out, HP.out, HU.out.trans (Ext.upd hx)⟩ | exact ⟨sent, R', rfl, HG.out.ext hx, HQ.out, HP.out, HU.out.trans (Ext.upd hx)⟩
              -- the next node
              have hdr : vis.drop h = vat vis h :: vis.drop (h + 1) := by rw [vat_eq hemp]; exact (List.getElem_cons_drop hemp).symm
              rw [hdr] at hQ
              have hum := vat_mem hemp
              have huN := HBF.out.lt _ hum
              obtain ⟨u, hu⟩ : ∃ u, vat vis h = u := ⟨_, rfl⟩
              rw [hu] at hQ hum huN
              obtain ⟨bq, oq, cq, rfl, hcq1, hcq2, hcell, ht1, ht2⟩ := hQ.head
              have HT1 := Lib.hid ht1; clear ht1
              have HT2 := Lib.hid ht2; clear ht2 hQ hdr
              have HUU := Lib.hid hu; clear hu
              go_upto_region 13 with fail
              go_cut [12, 13] from 40 to 82 (fun s12 s13 wx => s13 = .int .i64 u ∧ QRow (wo.heap.size + 1) wx s12 ((vis.drop (h + 1)).map fun v : Nat => (v : Int)) ∧ wx = wi)
              case first =>
                by_cases hc1 : cq = 1
                · subst hc1
                  have hz : (vis.drop (h + 1)).length = 0 := by simp at hcq1 ⊢; omega
                  have HQ1 := Lib.hid (HT1.out rfl)
                  have hz' : (List.map (fun v : Nat => (v : Int)) (vis.drop (h + 1))).length = 0 := by simpa using hz
                  rw [hz'] at hcq1 ⊢
                  go_wp2_with fail
                  go_meet
                  exact ⟨rfl, HQ1.out, rfl⟩
                · have HQ1 := Lib.hid (HT2.out hc1)
                  go_wp2_with fail
                  go_meet
                  have h9 := HQ1.out
                  rw [List.length_map, List.length_drop] at h9
                  exact ⟨rfl, h9, rfl⟩
              case rest =>
                obtain ⟨rfl, hq1, rfl⟩ := hcut
                have HQ1 := Lib.hid hq1; clear hq1
                have hx0 := hx
                obtain ⟨br, orr, er, _, _, _, hcr, _⟩ := HG.out.at_ (k := u) (by rw [HQ.out.len]; exact huN)
                obtain ⟨aru, cru, evu, i1, i2⟩ := HG.out.rowForm (k := u) (by rw [HQ.out.len]; exact huN)
                have hIu := (HG.out.row u (by rw [HQ.out.len]; exact huN)).ints
                rw [evu] at hcr hIu
                obtain ⟨_, _, eI, _, _, hIA⟩ := hIu
                simp only [Value.slice.injEq, true_and] at eI
                obtain ⟨rfl, rfl⟩ := eI
                have hru := HQ.out.row u huN
                rw [hru] at hcr i1
                have HIA := Lib.hid hIA; clear hIA
                have HRU := Lib.hid hru; clear hru evu
                have hcr' := Ext.cell hx hcr
                subst er
                have HBA1 := HBA
                go_wp2
                go_loopw [12, 60] (fun q i wr => ∃ (l : Nat) (B' : List Int) (vis' : List Nat), l ≤ N ∧ i = .int .i64 l ∧ Bfs N (elOf R') s B' vis' ∧ Closed N (elOf R') vis' h ∧ Part (elOf R') vis' h l ∧ h < vis'.length ∧ vat vis' h = u ∧ OwnA wo.heap.size (wo.heap.size + 1) wr (some ⟨wo.heap.size, 0, none⟩) B' ∧ QRow (wo.heap.size + 1) wr q ((vis'.drop (h + 1)).map fun v : Nat => (v : Int)) ∧ Ext wo wr) (fun _ i _ => N - (intOf i).toNat)
                case atStart => exact ⟨0, B, vis, Nat.zero_le _, rfl, HBF.out, HCL.out, Part.zero, hemp, HUU.out, HBA1.out, HQ1.out, hx⟩
                case round =>
                  obtain ⟨l, B', vis', hl, rfl, hBf, hCl, hPa, hhv, hvu, hBA', hQ', hx'⟩ := hrel
                  obtain ⟨wi', rfl⟩ : ∃ wi' : World, wi' = wr := ⟨_, rfl⟩
                  have HBF' := Lib.hid hBf; clear hBf
                  have HCL' := Lib.hid hCl; clear hCl
                  have HPA := Lib.hid hPa; clear hPa
                  have HVU := Lib.hid hvu; clear hvu
                  have HBA' := Lib.hid hBA'; clear hBA'
                  have HQ' := Lib.hid hQ'; clear hQ'
                  by_cases hl2 : l < N
                  · obtain ⟨bx, ox, ex, hcx0⟩ := HIA.out l (by rw [HRU.out]; exact hl2)
                    subst ex
                    have hcx := Ext.cell hx' hcx0
                    have hee : ix (rowAt R' u) l = elOf R' u l := rfl
                    have hbd := HS.out.bound HB.out huN hl2
                    rw [hee] at hcx
                    clear hee hcx0
                    obtain ⟨bb, ob, eb, _, _, hblt, hcb, hfb⟩ := HBA'.out.at_ (k := l) (by rw [HBF'.out.blen]; exact hl2)
                    simp only [Option.some.injEq, Addr.mk.injEq, and_true] at eb
                    obtain ⟨rfl, rfl⟩ := eb
                    rw [Nat.zero_add] at hcb hfb
                    have hrg := HBF'.out.range hl2
                    by_cases hpos : 0 < elOf R' u l
                    · by_cases hneg : ix B' l < 0
                      · have hnm : l ∉ vis' := fun hm => by have := (HBF'.out.mem_iff hl2).1 hm; omega
                        have hadd := HBF'.out.add hhv hl2 hnm (by rw [HVU.out]; exact hpos)
                        rw [HVU.out] at hadd
                        have HADD := Lib.hid hadd; clear hadd
                        have hset := HBA'.out.set (k := l) (by rw [HBF'.out.blen]; exact hl2) (u : Int)
                        rw [Nat.zero_add] at hset
                        have E1 := (Ext.refl (wi'.setCell ⟨wo.heap.size, l, none⟩ (.int .i64 u))).alloc (.cells #[.int .i64 l] 3)
                        have HSET := Lib.hid (hset.ext E1); clear hset
                        have HQP := Lib.hid ((HQ'.out.put (a := ⟨wo.heap.size, l, none⟩) (by simp) (.int .i64 u)).ext E1)
                        have HXP := Lib.hid ((hx'.setCell (a := ⟨wo.heap.size, l, none⟩) (.int .i64 u) (Nat.le_refl _)).trans E1)
                        have hvl := HBF'.out.length_le
                        have hsz := hx'.size
                        have hdrop : (vis' ++ [l]).drop (h + 1) = vis'.drop (h + 1) ++ [l] := List.drop_append_of_le_length (by omega)
                        have HDR := Lib.hid hdrop; clear hdrop
                        have hln : ((vis'.drop (h + 1)).map fun v : Nat => (v : Int)).length < 1000000 := by simp; omega
                        have HLN := Lib.hid hln; clear hln
                        go_wp2_with (at_builtin; go_loud (refine qapp1 _ rfl _ _ 36 rfl 8 Try.underlying36 info_int (wo.heap.size + 1) _ _ rfl HQP.out wi'.heap.size 1 3 (l : Int) rfl (Box.new _ _ _ (by simp [World.setCell])) HLN.out (by omega) (by simp [World.setCell]; omega) ?_))
                        intro q2 w3 hq2 hu3
                        have HQ2 := Lib.hid hq2; clear hq2
                        have HB3 := Lib.hid (HSET.out.upd hu3 (fun _ s => by simp only [ablk] at s; omega))
                        have HX3 := Lib.hid (HXP.out.of_upd hu3 (fun b hb => by omega))
                        clear hu3
                        go_wp2
                        go_roundw
                        case rel => exact ⟨l + 1, _, vis' ++ [l], by omega, by go_num, HADD.out, HCL'.out.add (by omega), HPA.out.add hhv, by simp; omega, by rw [vat_left hhv]; exact HVU.out, HB3.out, by rw [HDR.out]; simpa using HQ2.out, HX3.out⟩
                        case measure => simp [intOf]; omega
                      · have hm : l ∈ vis' := (HBF'.out.mem_iff hl2).2 (by omega)
                        have HM := Lib.hid hm; clear hm
                        go_wp2
                        go_roundw
                        case rel => exact ⟨l + 1, B', vis', by omega, by go_num, HBF'.out, HCL'.out, HPA.out.keep (fun _ => HM.out), hhv, HVU.out, HBA'.out, HQ'.out, hx'⟩
                        case measure => simp [intOf]; omega
                    · have HNP : Hid (0 < elOf R' (vat vis' h) l → l ∈ vis') := Lib.hid (fun hh => absurd (by rw [HVU.out] at hh; exact hh) hpos)
                      go_wp2
                      go_roundw
                      case rel => exact ⟨l + 1, B', vis', by omega, by go_num, HBF'.out, HCL'.out, HPA.out.keep HNP.out, hhv, HVU.out, HBA'.out, HQ'.out, hx'⟩
                      case measure => simp [intOf]; omega
                  · have hlN : l = N := by omega
                    have HPN := Lib.hid (show Part (elOf R') vis' h N by rw [← hlN]; exact HPA.out)
                    clear hlN
                    have hvl := HBF'.out.length_le
                    go_wp2
                    go_roundg (gk - 1)
                    case rel => exact ⟨B', vis', h + 1, by omega, by omega, HBF'.out, HCL'.out.next HPN.out, HBA'.out, HQ'.out, hx'⟩
                    case measure => omega
            · -- the sink is reached
              have htm := (HBF.out.mem_iff ht).2 (by omega)
              obtain ⟨L, hLc, hLn, hLe⟩ := HBF.out.chain htm
              have HLC := Lib.hid hLc; clear hLc
              have HLN := Lib.hid hLn; clear hLn
              have HLE := Lib.hid hLe; clear hLe
              have HHI := Lib.hid hhi
              obtain ⟨bq, oq, cq, rfl, _, _⟩ := hQ.form
              clear hQ
              obtain ⟨nq, hnq⟩ : ∃ n, ((vis.drop h).map fun v : Nat => (v : Int)).length = n := ⟨_, rfl⟩
              rw [hnq]
              clear hnq
              by_cases hq0 : 0 < nq
              all_goals
                go_wp2
                go_loopg [16, 17] L.length (fun gk st v wr => ∃ (step : Int) (u : Nat) (l1 l2 : List Nat), st = .int .i64 step ∧ v = .int .i64 u ∧ L = l1 ++ l2 ∧ gk = l2.length ∧ Chain (bkOf B) s u l2 ∧ u ∈ vis ∧ 0 < step ∧ step ≤ lim - sent ∧ (∀ w, w ∈ l1 → step ≤ elOf R' (bkOf B w) w) ∧ wr = wi)
                case atStart => exact ⟨lim - sent, t, [], L, rfl, rfl, rfl, rfl, HLC.out, htm, by omega, Int.le_refl _, fun w hw => by simp at hw, rfl⟩
                case round =>
                  obtain ⟨step, u, l1, l2, rfl, rfl, hL, hgk2, hch, hum, h0, h1, h2, rfl⟩ := hrel
                  have HLL := Lib.hid hL; clear hL
                  have HGK := Lib.hid hgk2; clear hgk2
                  have HCH := Lib.hid hch; clear hch
                  have HST := Lib.hid h2; clear h2
                  have huN := HBF.out.lt _ hum
                  by_cases hus : u = s
                  · have hq1 : ((u : Int) != (s : Int)) = false := by simp [hus]
                    have hl2 := chain_end HCH.out hus
                    have HL1 : Hid (l1 = L) := Lib.hid (by rw [HLL.out, hl2, List.append_nil])
                    clear hus hl2 HGK HCH HLL
                    go_wp2
                    go_loopg [18] L.length (fun gk v wr => ∃ (u : Nat) (l1 l2 : List Nat) (R2 : List (List Int)), v = .int .i64 u ∧ L = l1 ++ l2 ∧ gk = l2.length ∧ Chain (bkOf B) s u l2 ∧ u ∈ vis ∧ OwnGA lo hi wr ao rvs R2 ∧ Sq N R2 ∧ (∀ a b, a < N → b < N → elOf R2 a b = along (bkOf B) step l1 (elOf R') a b) ∧ Upd (fun b => lo ≤ b ∧ b < hi) wo wr ∧ OwnA wo.heap.size (wo.heap.size + 1) wr (some ⟨wo.heap.size, 0, none⟩) B)
                    case atStart => exact ⟨t, [], L, R', rfl, rfl, rfl, HLC.out, htm, HG.out.ext hx, HQ.out, fun a b _ _ => by rw [along_nil], Ext.upd hx, HBA.out⟩
                    case round =>
                      obtain ⟨u, l1', l2, R2, rfl, hL, hgk2, hch, hum, hg2, hq2, hal, hU2, hBA2⟩ := hrel
                      obtain ⟨wj, rfl⟩ : ∃ wj : World, wj = wr := ⟨_, rfl⟩
                      have HLL := Lib.hid hL; clear hL
                      have HGK := Lib.hid hgk2; clear hgk2
                      have HCH := Lib.hid hch; clear hch
                      have HG2 := Lib.hid hg2; clear hg2
                      have HQ2 := Lib.hid hq2; clear hq2
                      have HAL := Lib.hid hal; clear hal
                      have HBA2 := Lib.hid hBA2; clear hBA2
                      have huN := HBF.out.lt _ hum
                      by_cases hus : u = s
                      · have hq1 : ((u : Int) != (s : Int)) = false := by simp [hus]
                        have hl2 := chain_end HCH.out hus
                        have hL1' : l1' = L := by rw [HLL.out, hl2, List.append_nil]
                        have hsent' : Sent N (elOf R) s t (sent + step) (elOf R2) :=
                          (HS.out.step hst HLC.out HLN.out (fun w hw => ⟨(HLE.out w hw).1, (HLE.out w hw).2.1⟩) (fun w hw => HST.out w (by rw [HL1.out]; exact hw)) (by omega)).congr hs (fun a b ha hb => by rw [HAL.out a b ha hb, hL1'])
                        have HSE := Lib.hid hsent'; clear hsent' hL1' hl2
                        go_wp2
                        go_roundw
                        case rel => exact ⟨sent + step, R2, rfl, HG2.out, HQ2.out, HSE.out, by omega, fun _ => by omega, HU.out.trans hU2⟩
                        case measure => simp [intOf]; omega
                      · have hq1 : ((u : Int) != (s : Int)) = true := by simp; omega
                        obtain ⟨l2', hl2, hch'⟩ := chain_cons HCH.out hus
                        obtain ⟨e1, e2, e3, e4⟩ := HBF.out.back hum hus
                        obtain ⟨p, hp⟩ : ∃ p, bkOf B u = p := ⟨_, rfl⟩
                        rw [hp] at e1 e2 e3 e4 hch'
                        have hpN := HBF.out.lt _ e2
                        have hpu : p ≠ u := fun e => by rw [e] at e3; omega
                        have HHP := Lib.hid hp; clear hp e3
                        have HCH' := Lib.hid hch'; clear hch'
                        have HL2 := Lib.hid hl2; clear hl2
                        have hnot : u ∉ l1' := fun hm => by
                          have h5 := HLN.out
                          rw [HLL.out, HL2.out, List.nodup_append] at h5
                          exact h5.2.2 u hm u (by simp) rfl
                        have HNOT := Lib.hid hnot; clear hnot
                        -- whence
                        obtain ⟨b1, o1, q1, _, _, _, hcb, _⟩ := HBA2.out.at_ (k := u) (by rw [HBF.out.blen]; exact huN)
                        simp only [Option.some.injEq, Addr.mk.injEq, and_true] at q1
                        obtain ⟨rfl, rfl⟩ := q1
                        rw [Nat.zero_add, e1] at hcb
                        -- the edge
                        have bd1 := HAL.out p u hpN huN
                        have bd2 := HAL.out u p huN hpN
                        have bb1 := along_bound (bk := bkOf B) (l := l1') (r := elOf R') (c := step) (by omega) p u
                        have bb2 := along_bound (bk := bkOf B) (l := l1') (r := elOf R') (c := step) (by omega) u p
                        have bs1 := HS.out.bound HB.out hpN huN
                        have bs2 := HS.out.bound HB.out huN hpN
                        rw [← bd1] at bb1
                        rw [← bd2] at bb2
                        clear bd1 bd2
                        obtain ⟨bg, og, q2, _, _, _, hcp, _⟩ := HG2.out.at_ (k := p) (by rw [HQ2.out.len]; exact hpN)
                        obtain ⟨ap, cp, evp, ip1, ip2⟩ := HG2.out.rowForm (k := p) (by rw [HQ2.out.len]; exact hpN)
                        have hst1 := HG2.out.store (k := p) (l := u) (by rw [HQ2.out.len]; exact hpN) (by rw [HQ2.out.row p hpN]; exact huN) evp
                        rw [evp, HQ2.out.row p hpN] at hcp
                        rw [HQ2.out.row p hpN] at ip1
                        obtain ⟨bp, op, q3, lp1, lp2, lp3, hce, hfe, st1⟩ := hst1
                        subst q2 q3
                        obtain ⟨X, hX⟩ : ∃ X, elOf R2 p u = X := ⟨_, rfl⟩
                        have hX' : ix (rowAt R2 p) u = X := hX
                        rw [hX'] at hce
                        clear hX'
                        rw [hX] at bb1
                        have G3 := Lib.hid (st1 (X - step)); clear st1 evp
                        have hq3 := HQ2.out.set (u := p) (v := u) (X - step)
                        have hel3 := elOf_set HQ2.out hpN huN (X - step)
                        obtain ⟨R3, hR3⟩ : ∃ R3, R2.set p ((rowAt R2 p).set u (X - step)) = R3 := ⟨_, rfl⟩
                        rw [hR3] at G3 hq3 hel3
                        have HQ3 := Lib.hid hq3; clear hq3
                        have HE3 := Lib.hid hel3; clear hel3 hR3
                        obtain ⟨bg', og', q2, _, _, _, hcu, _⟩ := G3.out.at_ (k := u) (by rw [HQ3.out.len]; exact huN)
                        simp only [Option.some.injEq, Addr.mk.injEq, and_true] at q2
                        obtain ⟨rfl, rfl⟩ := q2
                        obtain ⟨au, cu, evu, iu1, iu2⟩ := G3.out.rowForm (k := u) (by rw [HQ3.out.len]; exact huN)
                        have hst2 := G3.out.store (k := u) (l := p) (by rw [HQ3.out.len]; exact huN) (by rw [HQ3.out.row u huN]; exact hpN) evu
                        rw [evu, HQ3.out.row u huN] at hcu
                        rw [HQ3.out.row u huN] at iu1
                        obtain ⟨bu, ou, q3, lu1, lu2, lu3, hce2, hfe2, st2⟩ := hst2
                        subst q3
                        have hY : ix (rowAt R3 u) p = elOf R2 u p := by
                          have := HE3.out u p
                          rw [if_neg (fun e => hpu e.1.symm)] at this
                          exact this
                        obtain ⟨Y, hYY⟩ : ∃ Y, elOf R2 u p = Y := ⟨_, rfl⟩
                        rw [hY, hYY] at hce2
                        rw [hYY] at bb2
                        have HXX := Lib.hid hX; clear hX
                        have HYY := Lib.hid hYY; clear hYY hY
                        have G4 := Lib.hid (st2 (Y + step)); clear st2 evu
                        have hBA3 := HBA2.out.upd (S := fun b => b = bp) ((Upd.refl wj).setCell (a := ⟨bp, op + u, none⟩) (.int .i64 (X - step)) (fun _ => rfl)) (fun _ e => by simp only [ablk] at e; omega)
                        obtain ⟨b2, o2, q1, _, _, _, hcb2, _⟩ := hBA3.at_ (k := u) (by rw [HBF.out.blen]; exact huN)
                        simp only [Option.some.injEq, Addr.mk.injEq, and_true] at q1
                        obtain ⟨rfl, rfl⟩ := q1
                        rw [Nat.zero_add, e1] at hcb2
                        have HBA4 := Lib.hid (hBA3.upd (S := fun b => b = bu) ((Upd.refl _).setCell (a := ⟨bu, ou + p, none⟩) (.int .i64 (Y + step)) (fun _ => rfl)) (fun _ e => by simp only [ablk] at e; omega)); clear hBA3
                        have hw2 : IntKind.i64.wrap (Y + step) = Y + step := IntWalk.i64_in _ (by omega)
                        have HU3 := Lib.hid (((hU2.setCell (a := ⟨bp, op + u, none⟩) (.int .i64 (X - step)) (fun _ => by simp only; omega)).setCell (a := ⟨bu, ou + p, none⟩) (.int .i64 (Y + step)) (fun _ => by simp only; omega)).drew)
                        have HD := Lib.hid ((Ext.refl ((wj.setCell ⟨bp, op + u, none⟩ (.int .i64 (X - step))).setCell ⟨bu, ou + p, none⟩ (.int .i64 (Y + step)))).drew)
                        go_wp2_with fail
                        go_region
                        go_wp2
                        go_roundg l2'.length
                        case rel =>
                          refine ⟨p, l1' ++ [u], l2', R3.set u ((rowAt R3 u).set p (Y + step)), rfl, by rw [HLL.out, HL2.out, List.append_assoc]; rfl, rfl, HCH'.out, e2, G4.out.ext HD.out, HQ3.out.set _, fun a b ha hb => ?_, HU3.out, HBA4.out.ext HD.out⟩
                          rw [elOf_set HQ3.out huN hpN, along_snoc (bkOf B) step (elOf R') HNOT.out, HHP.out, ← HAL.out a b ha hb, HE3.out a b]
                          by_cases k1 : a = u ∧ b = p
                          · obtain ⟨rfl, rfl⟩ := k1
                            rw [if_pos ⟨rfl, rfl⟩, if_neg (fun e => hpu e.1), if_pos ⟨rfl, rfl⟩, HYY.out]; omega
                          · rw [if_neg k1, if_neg (fun e : a = u ∧ p = b => k1 ⟨e.1, e.2.symm⟩)]
                            by_cases k2 : a = p ∧ b = u
                            · obtain ⟨rfl, rfl⟩ := k2
                              rw [if_pos ⟨rfl, rfl⟩, if_pos ⟨rfl, rfl⟩, HXX.out]; omega
                            · rw [if_neg k2, if_neg (fun e : b = u ∧ p = a => k2 ⟨e.2.symm, e.1⟩)]; omega
                        case measure => rw [HGK.out, HL2.out]; simp
                  · have hq1 : ((u : Int) != (s : Int)) = true := by simp; omega
                    obtain ⟨l2', hl2, hch'⟩ := chain_cons HCH.out hus
                    obtain ⟨e1, e2, e3, e4⟩ := HBF.out.back hum hus
                    obtain ⟨p, hp⟩ : ∃ p, bkOf B u = p := ⟨_, rfl⟩
                    rw [hp] at e1 e2 e3 e4 hch'
                    have hpN := HBF.out.lt _ e2
                    have HHP := Lib.hid hp; clear hp e3
                    have HCH' := Lib.hid hch'; clear hch'
                    have HL2 := Lib.hid hl2; clear hl2
                    obtain ⟨b1, o1, q1, _, _, _, hcb, _⟩ := HBA.out.at_ (k := u) (by rw [HBF.out.blen]; exact huN)
                    simp only [Option.some.injEq, Addr.mk.injEq, and_true] at q1
                    obtain ⟨rfl, rfl⟩ := q1
                    rw [Nat.zero_add, e1] at hcb
                    have G2 := Lib.hid (HG.out.ext hx)
                    obtain ⟨bg, og, q2, _, _, _, hcp, _⟩ := G2.out.at_ (k := p) (by rw [HQ.out.len]; exact hpN)
                    obtain ⟨ap, cp, evp, ip1, ip2⟩ := G2.out.rowForm (k := p) (by rw [HQ.out.len]; exact hpN)
                    have hst1 := G2.out.store (k := p) (l := u) (by rw [HQ.out.len]; exact hpN) (by rw [HQ.out.row p hpN]; exact huN) evp
                    rw [evp, HQ.out.row p hpN] at hcp
                    rw [HQ.out.row p hpN] at ip1
                    obtain ⟨bp, op, q3, _, _, _, hce, _, st1⟩ := hst1
                    clear st1 evp
                    subst q2 q3
                    have bs1 := HS.out.bound HB.out hpN huN
                    obtain ⟨X, hX⟩ : ∃ X, elOf R' p u = X := ⟨_, rfl⟩
                    have hX' : ix (rowAt R' p) u = X := hX
                    rw [hX'] at hce
                    rw [hX] at bs1 e4
                    have HXX := Lib.hid hX; clear hX hX'
                    obtain ⟨M, hM⟩ : ∃ M, (if X < step then X else step) = M := ⟨_, rfl⟩
                    have hM1 : 0 < M ∧ M ≤ step ∧ M ≤ X := by rw [← hM]; split <;> omega
                    go_wp2
                    go_roundg l2'.length
                    case rel =>
                      refine ⟨M, p, l1 ++ [u], l2', rfl, rfl, by rw [HLL.out, HL2.out, List.append_assoc]; rfl, rfl, HCH'.out, e2, by omega, by omega, fun w hw => ?_, rfl⟩
                      simp at hw
                      rcases hw with hw | rfl
                      · have := HST.out w hw; omega
                      · rw [HHP.out, HXX.out]; omega
                    case measure => rw [HGK.out, HL2.out]; simp
    · have hfin : lim ≤ sent := by omega
      have HP := Lib.hid (show Pushed N (elOf R) s t lim sent (elOf R') from ⟨HS.out.nonneg, HS.out.pair, HS.out.node, HS.out.src, hsent, HLE.out, .inl hfin⟩)
      go_wp2
      go_ret
      exact ⟨sent, rfl, R', HG.out, HQ.out, HP.out, HU.out⟩
end Go.Proofs.Ytodnkahnbidgaaa
