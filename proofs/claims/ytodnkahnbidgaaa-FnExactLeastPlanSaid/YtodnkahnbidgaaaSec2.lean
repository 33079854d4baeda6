/- Lists of cells; hidden cells that are not protected: positions, vContains, covers, UnprotectedCells. -/
import Derived.Test.YtodnkahnbidgaaaGrow
import Derived.Test.YtodnkahnbidgaaaSec
namespace Go.Proofs.Ytodnkahnbidgaaa
open Go.RowKit

def pairI (i j : Nat) : List Int := [(i : Int), (j : Int)]
/-- of the first l elements of row i, those that the test holds of -/
def rowC (f : Nat → Nat → Int → Bool) (i : Nat) (r : List Int) (l : Nat) : List (List Int) := ((List.range l).filter fun j => f i j (ix r j)).map fun j => pairI i j
/-- the first k rows, and l elements of row k -/
def cellsTo (f : Nat → Nat → Int → Bool) (p : List (List Int)) (k l : Nat) : List (List Int) := ((List.range k).flatMap fun i => rowC f i (rowAt p i) (rowAt p i).length) ++ rowC f k (rowAt p k) l
def cellsL (f : Nat → Nat → Int → Bool) (p : List (List Int)) : List (List Int) := cellsTo f p p.length 0
theorem cellsTo_start (f : Nat → Nat → Int → Bool) (p : List (List Int)) : cellsTo f p 0 0 = [] := by simp [cellsTo, rowC]
theorem cellsTo_yes {f : Nat → Nat → Int → Bool} {p : List (List Int)} {k l : Nat} (h : f k l (elOf p k l) = true) : cellsTo f p k (l + 1) = cellsTo f p k l ++ [pairI k l] := by
  have h' : f k l (ix (rowAt p k) l) = true := h
  simp [cellsTo, rowC, List.range_succ, List.filter_append, h']
theorem cellsTo_no {f : Nat → Nat → Int → Bool} {p : List (List Int)} {k l : Nat} (h : f k l (elOf p k l) = false) : cellsTo f p k (l + 1) = cellsTo f p k l := by
  have h' : f k l (ix (rowAt p k) l) = false := h
  simp [cellsTo, rowC, List.range_succ, List.filter_append, h']
theorem cellsTo_next {f : Nat → Nat → Int → Bool} {p : List (List Int)} {k l : Nat} (h : l = (rowAt p k).length) : cellsTo f p (k + 1) 0 = cellsTo f p k l := by
  subst h
  simp [cellsTo, rowC, List.range_succ, List.flatMap_append]
theorem rowC_len (f : Nat → Nat → Int → Bool) (i : Nat) (r : List Int) (l : Nat) : (rowC f i r l).length ≤ l := by
  have := List.length_filter_le (fun j => f i j (ix r j)) (List.range l)
  simpa [rowC] using this
theorem cellsTo_len {f : Nat → Nat → Int → Bool} {p : List (List Int)} {k l m : Nat} (hk : k ≤ p.length) (hr : ∀ i, i < p.length → (rowAt p i).length ≤ m) : (cellsTo f p k l).length ≤ k * m + l := by
  induction k generalizing l with
  | zero => simpa [cellsTo] using rowC_len f 0 (rowAt p 0) l
  | succ k ih =>
    have h1 := ih (l := (rowAt p k).length) (by omega)
    have h2 := rowC_len f (k + 1) (rowAt p (k + 1)) l
    have h3 := hr k (by omega)
    have h4 : (cellsTo f p (k + 1) l).length = (cellsTo f p k (rowAt p k).length).length + (rowC f (k + 1) (rowAt p (k + 1)) l).length := by
      rw [← cellsTo_next (f := f) (p := p) (k := k) rfl]
      simp [cellsTo, rowC]
    rw [h4, Nat.add_mul]
    omega
/-- each row of the list is the place of a cell that the test holds of -/
theorem cellsL_row {f : Nat → Nat → Int → Bool} {p : List (List Int)} {t : Nat} (h : t < (cellsL f p).length) : ∃ i j, i < p.length ∧ j < (rowAt p i).length ∧ f i j (elOf p i j) = true ∧ rowAt (cellsL f p) t = pairI i j := by
  have hm := rowAt_mem h
  obtain ⟨r, hr⟩ : ∃ r, rowAt (cellsL f p) t = r := ⟨_, rfl⟩
  rw [hr] at hm ⊢
  simp only [cellsL, cellsTo, rowC, List.range_zero, List.filter_nil, List.map_nil, List.append_nil, List.mem_flatMap, List.mem_map, List.mem_filter, List.mem_range] at hm
  obtain ⟨i, hi, j, ⟨hj, hf⟩, e⟩ := hm
  exact ⟨i, j, hi, hj, hf, e.symm⟩
/-- the cells that a second test holds of too, taken from the list of the first -/
theorem cellsL_filter (f : Nat → Nat → Int → Bool) (q : List Int → Bool) (p : List (List Int)) : (cellsL f p).filter q = cellsL (fun i j v => f i j v && q (pairI i j)) p := by
  simp only [cellsL, cellsTo, rowC, List.range_zero, List.filter_nil, List.map_nil, List.append_nil, List.filter_flatMap, List.filter_map, List.filter_filter]
  refine congrArg (fun g => List.flatMap g (List.range p.length)) (funext fun i => ?_)
  refine congrArg (List.map _) (List.filter_congr fun j _ => ?_)
  simp [Bool.and_comm]
/-- two ints in a fresh block are an int row of its own -/
theorem Own.pair {w : World} {b : Nat} {i j : Nat} (h : Box w b 3 #[.int .i64 i, .int .i64 j]) : Own b (b + 1) w (.slice (some ⟨b, 0, none⟩) 2 2) (pairI i j) :=
  ⟨_, 2, rfl, Nat.le_refl _, by omega, .inr ⟨b, 0, _, rfl, Nat.le_refl _, Nat.lt_succ_self _, h, fun k hk => by
    have hk2 : k < 2 := hk
    match k, hk2 with
    | 0, _ => rfl
    | 1, _ => rfl⟩⟩
def oneF (_ _ : Nat) (v : Int) : Bool := decide (v = 1)

set_option maxRecDepth 100000 in
set_option maxHeartbeats 1600000 in
theorem positions_c (v : Value) (p : List (List Int)) (w : World) (h : Grid w v p) (hl : p.length ≤ 8) (hr : ∀ i, i < p.length → (rowAt p i).length ≤ 8) :
    Calls Try.prog 85 #[v] w (RetGrid (fun v' => v') w (cellsL oneF p)) := by
  obtain ⟨ao, cap, rfl, h1, h2, h3⟩ := h
  have G := Lib.hid h3; clear h3
  have HR := Lib.hid hr; clear hr
  go_enter Try.func85, Try.ntmps85
  go_wp2
  go_loopw [3, 10] (fun r i wr => ∃ (k : Nat) (rvs : List Value), k ≤ p.length ∧ i = .int .i64 k ∧ GRow w.heap.size wr.heap.size wr r rvs (cellsTo oneF p k 0) ∧ Ext w wr) (fun _ i _ => p.length - (intOf i).toNat)
  case atStart => exact ⟨0, [], Nat.zero_le _, rfl, by rw [cellsTo_start]; exact GRow.nil, Ext.refl w⟩
  case round =>
    obtain ⟨k, rvs, hk, rfl, hg, hx⟩ := hrel
    obtain ⟨wo, rfl⟩ : ∃ wo : World, wo = wr := ⟨_, rfl⟩
    have HG := Lib.hid hg; clear hg
    by_cases hlt : k < p.length
    · obtain ⟨b, o, ar, cr, rfl, hc0, r1, r2, r3⟩ := G.out.at_ hlt
      have hc := Ext.cell hx hc0
      obtain ⟨m, hm⟩ : ∃ m, (rowAt p k).length = m := ⟨_, rfl⟩
      have hm8 : m ≤ 8 := by rw [← hm]; exact HR.out k hlt
      rw [hm] at hc r1
      have R3 := Lib.hid r3; clear r3 hc0
      have HM := Lib.hid hm; clear hm
      go_wp2
      go_loopw [3, 17] (fun r i wr => ∃ (l : Nat) (rvs : List Value), l ≤ m ∧ i = .int .i64 l ∧ GRow w.heap.size wr.heap.size wr r rvs (cellsTo oneF p k l) ∧ Ext w wr) (fun _ i _ => m - (intOf i).toNat)
      case atStart => exact ⟨0, rvs, Nat.zero_le _, rfl, HG.out, hx⟩
      case round =>
        clear hc hx HG
        obtain ⟨l, rvs, hl', rfl, hg, hx⟩ := hrel
        obtain ⟨wi, rfl⟩ : ∃ wi : World, wi = wr := ⟨_, rfl⟩
        have HG := Lib.hid hg; clear hg
        by_cases hl2 : l < m
        · obtain ⟨b5, o5, rfl, hx5⟩ := R3.out l (by rw [HM.out]; exact hl2)
          have e5 := Ext.cell hx hx5
          have q5 : ix (rowAt p k) l = elOf p k l := rfl
          rw [q5] at e5
          clear q5 hx5
          by_cases hone : elOf p k l = 1
          · have hf : oneF k l (elOf p k l) = true := by simp [oneF, hone]
            have HCY := Lib.hid (cellsTo_yes hf); clear hf
            have hlen := cellsTo_len (f := oneF) (p := p) (k := k) (l := l) (m := 8) hk HR.out
            obtain ⟨n, hn⟩ : ∃ n, (cellsTo oneF p k l).length = n := ⟨_, rfl⟩
            rw [hn] at hlen
            have hn9 : n ≤ 80 := by omega
            clear hlen
            have HN := Lib.hid hn; clear hn
            have hs := hx.size
            have ub := (Ext.refl wi).alloc (.cells #[.int .i64 k, .int .i64 l] 3)
            have uc := ub.alloc (.cells #[.slice (some ⟨wi.heap.size, 0, none⟩) 2 2] 36)
            have hz1 : (wi.alloc (.cells #[.int .i64 k, .int .i64 l] 3)).heap.size = wi.heap.size + 1 := by simp
            have bp := (Box.new wi 3 #[.int .i64 k, .int .i64 l] rfl).alloc (.cells #[.slice (some ⟨wi.heap.size, 0, none⟩) 2 2] 36)
            have hown := (HG.out.ext uc).own
            rw [HN.out] at hown
            have HOWN := Lib.hid hown; clear hown
            have HBP := Lib.hid bp; clear bp
            have UC := Lib.hid uc; clear uc ub
            go_wp2_with (at_builtin; go_loud (refine app1 _ rfl _ _ 22 36 rfl (.slice none 0 0) 24 Try.underlying22 info_ints rfl w.heap.size _ n rvs rfl HOWN.out (wi.heap.size + 1) 1 36 (.slice (some ⟨wi.heap.size, 0, none⟩) 2 2) rfl (Box.new _ _ _ hz1.symm) rfl (by omega) (by omega) (by simp; omega) ?_))
            intro g cp w3 hown3 hgrow hat hlt3
            have hsg := hgrow.size
            have hsg2 : wi.heap.size + 2 ≤ w3.heap.size := by simp at hsg; omega
            have gn := (HG.out.ext UC.out).push (hi' := w3.heap.size) (x := .slice (some ⟨wi.heap.size, 0, none⟩) 2 2) (r := pairI k l) hs ((Own.pair HBP.out).mono (Nat.le_refl _) (by omega)) (by omega) hgrow (by rw [HN.out]; exact hown3)
            have hx3 := (HG.out.ext UC.out).grew (hx.trans UC.out) (Nat.le_refl _) hgrow
            have GN := Lib.hid gn; clear gn
            have HX3 := Lib.hid hx3; clear hx3
            clear hgrow hown3 hsg
            go_wp2
            go_roundw
            case rel => exact ⟨l + 1, _, by omega, by go_num, by rw [HCY.out]; exact GN.out, HX3.out⟩
            case measure => simp [intOf]; omega
          · have hf : oneF k l (elOf p k l) = false := by simp [oneF, hone]
            have HCN := Lib.hid (cellsTo_no hf); clear hf
            go_wp2
            go_roundw
            case rel => exact ⟨l + 1, rvs, by omega, by go_num, by rw [HCN.out]; exact HG.out, hx⟩
            case measure => simp [intOf]; omega
        · have hlm : l = (rowAt p k).length := by rw [HM.out]; omega
          have HCX := Lib.hid (cellsTo_next (f := oneF) hlm); clear hlm
          go_wp2
          go_roundw
          case rel => exact ⟨k + 1, rvs, by omega, by go_num, by rw [HCX.out]; exact HG.out, hx⟩
          case measure => simp [intOf]; omega
    · have hkk : k = p.length := by omega
      have HKK := Lib.hid hkk; clear hkk
      go_wp2
      go_ret
      exact ⟨_, rvs, rfl, by unfold cellsL; rw [← HKK.out]; exact HG.out.ownG (Nat.le_refl _) (Nat.le_refl _), hx⟩
end Go.Proofs.Ytodnkahnbidgaaa
namespace Go.Proofs.Ytodnkahnbidgaaa
open Go.RowKit

open Classical in
/-- where S has a 1, P has no 0 -/
noncomputable def coverB (P S : List (List Int)) : Bool := decide (∀ i j, i < S.length → j < (rowAt S i).length → elOf S i j = 1 → elOf P i j ≠ 0)
theorem coverB_true {P S : List (List Int)} : coverB P S = true ↔ ∀ i j, i < S.length → j < (rowAt S i).length → elOf S i j = 1 → elOf P i j ≠ 0 := by simp [coverB]
theorem coverB_not {P S : List (List Int)} {i j : Nat} (hi : i < S.length) (hj : j < (rowAt S i).length) (h1 : elOf S i j = 1) (h0 : elOf P i j = 0) : coverB P S = false := by
  rw [← Bool.not_eq_true, coverB_true]; intro h; exact h i j hi hj h1 h0
theorem pairI_inj {i j a b : Nat} (h : pairI i j = pairI a b) : i = a ∧ j = b := by
  simp only [pairI, List.cons.injEq, and_true] at h; omega
theorem cellsL_mem {f : Nat → Nat → Int → Bool} {p : List (List Int)} {i j : Nat} (hi : i < p.length) (hj : j < (rowAt p i).length) (hf : f i j (elOf p i j) = true) : ∃ t, t < (cellsL f p).length ∧ rowAt (cellsL f p) t = pairI i j := by
  have hm : pairI i j ∈ cellsL f p := by
    simp only [cellsL, cellsTo, rowC, List.range_zero, List.filter_nil, List.map_nil, List.append_nil, List.mem_flatMap, List.mem_map, List.mem_filter, List.mem_range]
    exact ⟨i, hi, j, ⟨hj, hf⟩, rfl⟩
  obtain ⟨t, ht, e⟩ := List.getElem_of_mem hm
  exact ⟨t, ht, by rw [rowAt_eq ht]; exact e⟩
theorem cellsL_len {f : Nat → Nat → Int → Bool} {p : List (List Int)} {m : Nat} (hr : ∀ i, i < p.length → (rowAt p i).length ≤ m) : (cellsL f p).length ≤ p.length * m := by
  have := cellsTo_len (f := f) (l := 0) (Nat.le_refl p.length) hr
  unfold cellsL; omega

end Go.Proofs.Ytodnkahnbidgaaa
namespace Go.Proofs.Ytodnkahnbidgaaa
open Go.RowKit
open Fm

/-- hidden by S, and not protected under P -/
noncomputable def openF (x P : List (List Int)) (down up : Int) (i j : Nat) (v : Int) : Bool := decide (v = 1) && !protB x P i j down up
noncomputable def inpB (x P S : List (List Int)) : Bool := pubB x P && (pubB x S && coverB P S)
noncomputable def upB (x P S : List (List Int)) (down up : Int) : Bool := inpB x P S && levB down up
noncomputable def upV (x P S : List (List Int)) (down up : Int) : List (List Int) := if upB x P S down up = true then cellsL (openF x P down up) S else []
theorem inpB_true {x P S : List (List Int)} (h : inpB x P S = true) : pubB x P = true ∧ pubB x S = true ∧ coverB P S = true := by
  simpa only [inpB, Bool.and_eq_true] using h
/-- a cell that S hides is one that P hides -/
theorem inp_one {x P S : List (List Int)} (h : inpB x P S = true) {i j : Nat} (hi : i < x.length) (hj : j < (rowAt x 0).length) (h1 : elOf S i j = 1) : elOf P i j = 1 := by
  obtain ⟨hp, hs, hc⟩ := inpB_true h
  have rP := pat_rc hp
  have rS := pat_rc hs
  have h0 := coverB_true.1 hc i j (by rw [rS.len]; exact hi) (by rw [rS.row i hi]; exact hj) h1
  have hg : gridB 8 1 P = true := by
    have : pubB x P = true := hp
    simp only [pubB, patB, Bool.and_eq_true] at this
    exact this.2.1
  have hb := gridB_elem hg (k := i) (j := j) (by rw [rP.len]; exact hi) (by rw [rP.row i hi]; exact hj)
  have e : elOf P i j = ix (rowAt P i) j := rfl
  omega
theorem ownsRow_ext {lo n : Nat} {w w' : World} {v : Value} {xs : List Value} (h : w.ownsRow lo 36 1 v n xs) (u : Ext w w') : w'.ownsRow lo 36 1 v n xs :=
  World.ownsRow.kept h (w' := w') (row := none) ⟨u.os, u.tape, u.output, u.size, fun k hk _ => u.block hk⟩ (by cases v.ownBlock <;> simp)
theorem ownsRow_low {lo lo' n : Nat} {w : World} {v : Value} {xs : List Value} (h : w.ownsRow lo 36 1 v n xs) (hb : lo' ≤ lo) : w.ownsRow lo' 36 1 v n xs :=
  ⟨h.1, h.2.elim Or.inl (fun ⟨g, cap, cur, hv, hg, r⟩ => Or.inr ⟨g, cap, cur, hv, Nat.le_trans hb hg, r⟩)⟩
theorem rvAt_map {f : Nat → Value} {I : List Nat} {k : Nat} (h : k < I.length) : rvAt (I.map f) k = f I[k] := by simp [rvAt, List.getD, h]
theorem rowAt_map {f : Nat → List Int} {I : List Nat} {k : Nat} (h : k < I.length) : rowAt (I.map f) k = f I[k] := by simp [rowAt, List.getD, h]
/-- rows picked out of a grid of the call's own, in a slice of their own -/
theorem pick_ownG {lo lo2 hi : Nat} {w w' : World} {ao : Option Addr} {rvs : List Value} {L : List (List Int)} {I : List Nat} {v : Value} (og : OwnGA lo hi w ao rvs L) (u : Ext w w') (hI : ∀ s ∈ I, s < L.length) (hnd : I.Nodup)
    (ho : w'.ownsRow lo2 36 1 v I.length (I.map (rvAt rvs))) (hlo : lo ≤ lo2) (hh : hi ≤ w'.heap.size) : OwnG lo w'.heap.size w' v (I.map (rvAt rvs)) (I.map (rowAt L)) := by
  refine OwnG.of_ownsRow (ownsRow_low ho hlo) (by simp) (Nat.le_refl _) (fun k hk => ?_) (fun j k hj hk hjk h1 h2 => ?_)
  · have hk' : k < I.length := by simpa using hk
    rw [rvAt_map hk', rowAt_map hk']
    exact ((og.row _ (hI _ (List.getElem_mem hk'))).ext u).mono (Nat.le_refl _) hh
  · have hj' : j < I.length := by simpa using hj
    have hk' : k < I.length := by simpa using hk
    rw [rvAt_map hj', rvAt_map hk']
    rw [rowAt_map hj'] at h1
    rw [rowAt_map hk'] at h2
    exact og.diff _ _ (hI _ (List.getElem_mem hj')) (hI _ (List.getElem_mem hk')) (fun e => (Nat.lt_or_gt_of_ne hjk).elim (fun h => List.pairwise_iff_getElem.1 hnd j k hj' hk' h e) (fun h => List.pairwise_iff_getElem.1 hnd k j hk' hj' h e.symm)) h1 h2
def pickI (q : List Int → Bool) (L : List (List Int)) (t : Nat) : List Nat := (List.range t).filter fun s => q (rowAt L s)
theorem pickI_yes {q : List Int → Bool} {L : List (List Int)} {t : Nat} (h : q (rowAt L t) = true) : pickI q L (t + 1) = pickI q L t ++ [t] := by simp [pickI, List.range_succ, List.filter_append, h]
theorem pickI_no {q : List Int → Bool} {L : List (List Int)} {t : Nat} (h : q (rowAt L t) = false) : pickI q L (t + 1) = pickI q L t := by simp [pickI, List.range_succ, List.filter_append, h]
theorem pickI_len (q : List Int → Bool) (L : List (List Int)) (t : Nat) : (pickI q L t).length ≤ t := by
  have := List.length_filter_le (fun s => q (rowAt L s)) (List.range t)
  simpa [pickI] using this
theorem map_rows (L : List (List Int)) : (List.range L.length).map (rowAt L) = L := by
  apply List.ext_getElem (by simp)
  intro k h1 h2
  simp [rowAt_eq h2]
theorem pickI_done (q : List Int → Bool) (L : List (List Int)) : (pickI q L L.length).map (rowAt L) = L.filter q := by
  conv => rhs; rw [← map_rows L]
  rw [List.filter_map]; rfl
noncomputable def openQ (x P : List (List Int)) (down up : Int) (r : List Int) : Bool := !protB x P (ix r 0).toNat (ix r 1).toNat down up
theorem openQ_pair (x P : List (List Int)) (down up : Int) (i j : Nat) : openQ x P down up (pairI i j) = !protB x P i j down up := by
  have e0 : ix (pairI i j) 0 = (i : Int) := rfl
  have e1 : ix (pairI i j) 1 = (j : Int) := rfl
  simp [openQ, e0, e1]
theorem open_filter (x P S : List (List Int)) (down up : Int) : (cellsL oneF S).filter (openQ x P down up) = cellsL (openF x P down up) S := by
  rw [cellsL_filter]
  simp only [openQ_pair]; rfl

set_option maxRecDepth 100000 in
set_option maxHeartbeats 1600000 in
theorem vOpen_c (x P S : List (List Int)) (v1 v2 v3 : Value) (down up : Int) (w : World) (hin : inpB x P S = true) (hl : levB down up = true) (h1 : Grid w v1 x) (h2 : Grid w v2 P) (h3 : Grid w v3 S) :
    Calls Try.prog 38 #[v1, v2, v3, .int .i64 down, .int .i64 up] w (RetGrid (fun v' => v') w (cellsL (openF x P down up) S)) := by
  have H1 := Lib.hid h1
  have H2 := Lib.hid h2
  obtain ⟨ax, cx, rfl, x1, x2, x3⟩ := h1
  clear x3
  obtain ⟨ap, cp, rfl, p1, p2, p3⟩ := h2
  clear p3
  obtain ⟨as_, cs, rfl, s1, s2, s3⟩ := h3
  have G := Lib.hid s3; clear s3
  obtain ⟨hp, hs, hc⟩ := inpB_true hin
  have hd := atk_dims hp
  have HRP := Lib.hid (pat_rc hp)
  have HRS := Lib.hid (pat_rc hs)
  have HIN := Lib.hid hin; clear hin
  have HP := Lib.hid hp; clear hp hs hc
  have HLV := Lib.hid hl; clear hl
  obtain ⟨n, hn⟩ : ∃ n, x.length = n := ⟨_, rfl⟩
  obtain ⟨m, hm⟩ : ∃ m, (rowAt x 0).length = m := ⟨_, rfl⟩
  rw [hn] at HRP HRS hd x1 H1
  rw [hm] at HRP HRS hd
  have hpl := HRP.out.len
  have hsl := HRS.out.len
  rw [hpl] at p1 H2
  rw [hsl] at s1
  rw [hn, hpl, hsl]
  have HPL := Lib.hid hpl; clear hpl
  have HSL := Lib.hid hsl; clear hsl
  have HN := Lib.hid hn; clear hn
  have HM := Lib.hid hm; clear hm
  obtain ⟨d1, d2, d3, d4⟩ := hd
  have HR8 : Hid (∀ i, i < S.length → (rowAt S i).length ≤ 8) := Lib.hid (fun i hi => by rw [HRS.out.row i (by rw [← HSL.out]; exact hi)]; exact d4)
  obtain ⟨F, hF⟩ : ∃ F, openF x P down up = F := ⟨_, rfl⟩
  rw [hF]
  have HF := Lib.hid hF; clear hF
  go_enter Try.func38, Try.ntmps38
  go_wp2
  go_loopw [11, 18] (fun r i wr => ∃ (k : Nat) (rvs : List Value), k ≤ n ∧ i = .int .i64 k ∧ GRow w.heap.size wr.heap.size wr r rvs (cellsTo F S k 0) ∧ Ext w wr) (fun _ i _ => n - (intOf i).toNat)
  case atStart => exact ⟨0, [], Nat.zero_le _, rfl, by rw [cellsTo_start]; exact GRow.nil, Ext.refl w⟩
  case round =>
    obtain ⟨k, rvs, hk, rfl, hg, hx⟩ := hrel
    obtain ⟨wo, rfl⟩ : ∃ wo : World, wo = wr := ⟨_, rfl⟩
    have HG := Lib.hid hg; clear hg
    by_cases hlt : k < n
    · obtain ⟨b, o, ar, cr, rfl, hc0, r1, r2, r3⟩ := G.out.at_ (k := k) (by rw [HSL.out]; exact hlt)
      have hc := Ext.cell hx hc0
      rw [HRS.out.row k hlt] at hc r1
      have R3 := Lib.hid r3; clear r3 hc0
      go_wp2
      go_loopw [11, 25] (fun r i wr => ∃ (l : Nat) (rvs : List Value), l ≤ m ∧ i = .int .i64 l ∧ GRow w.heap.size wr.heap.size wr r rvs (cellsTo F S k l) ∧ Ext w wr) (fun _ i _ => m - (intOf i).toNat)
      case atStart => exact ⟨0, rvs, Nat.zero_le _, rfl, HG.out, hx⟩
      case round =>
        clear hc hx HG
        obtain ⟨l, rvs, hl', rfl, hg, hx⟩ := hrel
        obtain ⟨wi0, rfl⟩ : ∃ wi0 : World, wi0 = wr := ⟨_, rfl⟩
        have HG := Lib.hid hg; clear hg
        by_cases hl2 : l < m
        · obtain ⟨b5, o5, rfl, hx5⟩ := R3.out l (by rw [HRS.out.row k hlt]; exact hl2)
          have e5 := Ext.cell hx hx5
          have q5 : ix (rowAt S k) l = elOf S k l := rfl
          rw [q5] at e5
          clear q5 hx5
          by_cases hone : elOf S k l = 1
          · have hP1 := inp_one HIN.out (i := k) (j := l) (by rw [HN.out]; exact hlt) (by rw [HM.out]; exact hl2) hone
            have HP1 := Lib.hid hP1; clear hP1
            cases hpr : protB x P k l down up
            · have hf : F k l (elOf S k l) = true := by rw [← HF.out]; simp [openF, hone, hpr]
              have HCY := Lib.hid (cellsTo_yes hf); clear hf
              have HPR := Lib.hid hpr; clear hpr
              have hlen := cellsTo_len (f := F) (p := S) (k := k) (l := l) (m := 8) (by rw [HSL.out]; exact hk) HR8.out
              obtain ⟨N, hN⟩ : ∃ N, (cellsTo F S k l).length = N := ⟨_, rfl⟩
              rw [hN] at hlen
              have hn9 : N ≤ 80 := by omega
              clear hlen
              have HNN := Lib.hid hN; clear hN
              have hs := hx.size
              go_wp2_with fail
              refine (vProtected_b false x P ax ap cx cp n m k l down up _ HN.out HM.out HP.out (H1.out.ext hx) (H2.out.ext hx) hlt hl2 HP1.out HLV.out HPR.out).mono ?_
              rintro e wi ⟨rfl, ui⟩
              have hx := hx.trans ui
              have HG := Lib.hid ((HG.out.ext ui).mono ui.size)
              have hs := hx.size
              have ub := (Ext.refl wi).alloc (.cells #[.int .i64 k, .int .i64 l] 3)
              have uc := ub.alloc (.cells #[.slice (some ⟨wi.heap.size, 0, none⟩) 2 2] 36)
              have hz1 : (wi.alloc (.cells #[.int .i64 k, .int .i64 l] 3)).heap.size = wi.heap.size + 1 := by simp
              have bp := (Box.new wi 3 #[.int .i64 k, .int .i64 l] rfl).alloc (.cells #[.slice (some ⟨wi.heap.size, 0, none⟩) 2 2] 36)
              have hown := (HG.out.ext uc).own
              rw [HNN.out] at hown
              have HOWN := Lib.hid hown; clear hown
              have HBP := Lib.hid bp; clear bp
              have UC := Lib.hid uc; clear uc ub
              go_wp2_with (at_builtin; go_loud (refine app1 _ rfl _ _ 22 36 rfl (.slice none 0 0) 24 Try.underlying22 info_ints rfl w.heap.size _ N rvs rfl HOWN.out (wi.heap.size + 1) 1 36 (.slice (some ⟨wi.heap.size, 0, none⟩) 2 2) rfl (Box.new _ _ _ hz1.symm) rfl (by omega) (by omega) (by simp; omega) ?_))
              intro g cp' w3 hown3 hgrow hat hlt3
              have hsg := hgrow.size
              have hsg2 : wi.heap.size + 2 ≤ w3.heap.size := by simp at hsg; omega
              have gn := (HG.out.ext UC.out).push (hi' := w3.heap.size) (x := .slice (some ⟨wi.heap.size, 0, none⟩) 2 2) (r := pairI k l) hs ((Own.pair HBP.out).mono (Nat.le_refl _) (by omega)) (by omega) hgrow (by rw [HNN.out]; exact hown3)
              have hx3 := (HG.out.ext UC.out).grew (hx.trans UC.out) (Nat.le_refl _) hgrow
              have GN := Lib.hid gn; clear gn
              have HX3 := Lib.hid hx3; clear hx3
              clear hgrow hown3 hsg
              go_wp2
              go_roundw
              case rel => exact ⟨l + 1, _, by omega, by go_num, by rw [HCY.out]; exact GN.out, HX3.out⟩
              case measure => simp [intOf]; omega
            · have hf : F k l (elOf S k l) = false := by rw [← HF.out]; simp [openF, hpr]
              have HCN := Lib.hid (cellsTo_no hf); clear hf
              have HPR := Lib.hid hpr; clear hpr
              go_wp2_with fail
              refine (vProtected_b true x P ax ap cx cp n m k l down up _ HN.out HM.out HP.out (H1.out.ext hx) (H2.out.ext hx) hlt hl2 HP1.out HLV.out HPR.out).mono ?_
              rintro e wi ⟨rfl, ui⟩
              have hx := hx.trans ui
              have HG := Lib.hid ((HG.out.ext ui).mono ui.size)
              go_wp2
              go_roundw
              case rel => exact ⟨l + 1, rvs, by omega, by go_num, by rw [HCN.out]; exact HG.out, hx⟩
              case measure => simp [intOf]; omega
          · have hf : F k l (elOf S k l) = false := by rw [← HF.out]; simp [openF, hone]
            have HCN := Lib.hid (cellsTo_no hf); clear hf
            go_wp2
            go_roundw
            case rel => exact ⟨l + 1, rvs, by omega, by go_num, by rw [HCN.out]; exact HG.out, hx⟩
            case measure => simp [intOf]; omega
        · have hlm : l = (rowAt S k).length := by rw [HRS.out.row k hlt]; omega
          have HCX := Lib.hid (cellsTo_next (f := F) hlm); clear hlm
          go_wp2
          go_roundw
          case rel => exact ⟨k + 1, rvs, by omega, by go_num, by rw [HCX.out]; exact HG.out, hx⟩
          case measure => simp [intOf]; omega
    · have hkk : k = S.length := by rw [HSL.out]; omega
      have HKK := Lib.hid hkk; clear hkk
      go_wp2
      go_ret
      exact ⟨_, rvs, rfl, by unfold cellsL; rw [← HKK.out]; exact HG.out.ownG (Nat.le_refl _) (Nat.le_refl _), hx⟩
set_option maxRecDepth 100000 in
set_option maxHeartbeats 3200000 in
theorem unprotected_c (x P S : List (List Int)) (v1 v2 v3 : Value) (down up : Int) (w : World) (hin : inpB x P S = true) (hl : levB down up = true) (h1 : Grid w v1 x) (h2 : Grid w v2 P) (h3 : Grid w v3 S) :
    Calls Try.prog 44 #[v1, v2, v3, .int .i64 down, .int .i64 up] w (RetGrid (fun v' => v') w (cellsL (openF x P down up) S)) := by
  have H1 := Lib.hid h1
  have H2 := Lib.hid h2; clear h2
  have H3 := Lib.hid h3; clear h3
  obtain ⟨ax, cx, rfl, x1, x2, x3⟩ := h1
  clear x3
  obtain ⟨hp, hs, hc⟩ := inpB_true hin
  have hd := atk_dims hp
  have HRS := Lib.hid (pat_rc hs)
  have HIN := Lib.hid hin; clear hin
  have HP := Lib.hid hp; clear hp hs hc
  have HLV := Lib.hid hl; clear hl
  obtain ⟨n, hn⟩ : ∃ n, x.length = n := ⟨_, rfl⟩
  obtain ⟨m, hm⟩ : ∃ m, (rowAt x 0).length = m := ⟨_, rfl⟩
  rw [hn] at HRS hd x1 H1
  rw [hm] at HRS hd
  rw [hn]
  have HN := Lib.hid hn; clear hn
  have HM := Lib.hid hm; clear hm
  obtain ⟨d1, d2, d3, d4⟩ := hd
  have hr8 : ∀ i, i < S.length → (rowAt S i).length ≤ 8 := fun i hi => by rw [HRS.out.row i (by rw [← HRS.out.len]; exact hi)]; exact d4
  have hs8 : S.length ≤ 8 := by rw [HRS.out.len]; exact d2
  have hl8 := cellsL_len (f := oneF) (p := S) (m := 8) hr8
  have HOF := Lib.hid (open_filter x P S down up)
  obtain ⟨F, hF⟩ : ∃ F, cellsL (openF x P down up) S = F := ⟨_, rfl⟩
  rw [hF] at HOF ⊢
  clear hF
  obtain ⟨L, hL⟩ : ∃ L, cellsL oneF S = L := ⟨_, rfl⟩
  obtain ⟨N, hN⟩ : ∃ N, L.length = N := ⟨_, rfl⟩
  rw [hL, hN] at hl8
  rw [hL] at HOF
  have hN64 : N ≤ 64 := by omega
  have HL := Lib.hid hL; clear hL
  have HNN := Lib.hid hN; clear hN hl8
  obtain ⟨Q, hQ⟩ : ∃ Q, openQ x P down up = Q := ⟨_, rfl⟩
  rw [hQ] at HOF
  have HQ := Lib.hid hQ; clear hQ
  go_enter Try.func44, Try.ntmps44
  go_wp2_with fail
  refine (attackNetwork_c _ x _ P _ H1.out H2.out HP.out).mono ?_
  rintro e w2 ⟨v2', rfl, ot, u2⟩
  have hr := ot.read
  clear ot
  obtain ⟨a0, c0, a1, c1, a2, c2, a3, c3, rfl⟩ := atk_form HP.out hr
  rw [HN.out, HM.out] at hr ⊢
  have HR := Lib.hid hr; clear hr
  have uA := (Ext.refl w2).alloc (.cells #[.slice a0 n c0, .slice a1 m c1, .slice a2 n c2, .slice a3 n c3] 38)
  have b0 := Box.new w2 38 #[.slice a0 n c0, .slice a1 m c1, .slice a2 n c2, .slice a3 n c3] rfl
  have uX := u2.trans uA
  go_wp2_with fail
  refine (positions_c _ S _ (H3.out.ext uX) hs8 hr8).mono ?_
  rw [HL.out]
  rintro e w4 ⟨v', rvs, rfl, og, u4⟩
  obtain ⟨aq, cq, rfl, l1, l2, og⟩ := og
  have OG := Lib.hid og; clear og
  have b4 := b0.ext u4
  have v4 := uX.trans u4
  have HRT := Lib.hid (HR.out.ext (uA.trans u4))
  have hz0 := uX.size
  have hz4 := u4.size
  rw [HNN.out] at l1 ⊢
  clear hs8 hr8 u2 uA u4
  go_wp2
  go_loopw [12, 21] (fun r i wr => ∃ t : Nat, t ≤ N ∧ i = .int .i64 t ∧ wr.ownsRow w4.heap.size 36 1 r (pickI Q L t).length ((pickI Q L t).map (rvAt rvs)) ∧ Ext w4 wr) (fun _ i _ => N - (intOf i).toNat)
  case atStart => exact ⟨0, Nat.zero_le _, rfl, by simpa [pickI] using World.ownsRow_nil _ _ _ _, Ext.refl _⟩
  case round =>
    obtain ⟨t, ht, rfl, hw, hx⟩ := hrel
    obtain ⟨wo, rfl⟩ : ∃ wo : World, wo = wr := ⟨_, rfl⟩
    have HW := Lib.hid hw; clear hw
    by_cases hlt : t < N
    · obtain ⟨i, j, hi, hjj, hf, er⟩ := cellsL_row (f := oneF) (p := S) (t := t) (by rw [HL.out, HNN.out]; exact hlt)
      rw [HL.out] at er
      have hi' : i < n := by rw [← HRS.out.len]; exact hi
      have hj' : j < m := by rw [← HRS.out.row i hi']; exact hjj
      clear hf hi hjj
      have htL : t < L.length := by rw [HNN.out]; exact hlt
      obtain ⟨bq, oq, rfl, _, _, _, hcq, _⟩ := (OG.out.ext hx).at_ (k := t) htL
      have hrow := (OG.out.ext hx).row t htL
      have hqv : Q (rowAt L t) = !protB x P i j down up := by rw [er, ← HQ.out, openQ_pair]
      rw [er] at hrow
      obtain ⟨ar, cr, erv, k1, k2, oa⟩ := hrow
      have k3 : (pairI i j).length = 2 := rfl
      rw [k3] at erv k1
      rw [erv] at hcq
      obtain ⟨b5, o5, rfl, _, _, _, hx5, _⟩ := oa.at_ (k := 0) (by rw [k3]; omega)
      obtain ⟨b5', o5', e6, _, _, _, hx6, _⟩ := oa.at_ (k := 1) (by rw [k3]; omega)
      simp only [Option.some.injEq, Addr.mk.injEq, and_true] at e6
      obtain ⟨rfl, rfl⟩ := e6
      have q5 : ix (pairI i j) 0 = (i : Int) := rfl
      have q6 : ix (pairI i j) 1 = (j : Int) := rfl
      rw [q5, Nat.add_zero] at hx5
      rw [q6] at hx6
      clear q5 q6 k3 oa er htL
      have ERV := Lib.hid erv; clear erv
      have bo := b4.ext hx
      have y0 : wo.cell? ⟨w2.heap.size, 0, none⟩ = some (.slice a0 n c0) := bo.cell 0 (by simp)
      have y1 : wo.cell? ⟨w2.heap.size, 1, none⟩ = some (.slice a1 m c1) := bo.cell 1 (by simp)
      have y2 : wo.cell? ⟨w2.heap.size, 2, none⟩ = some (.slice a2 n c2) := bo.cell 2 (by simp)
      have y3 : wo.cell? ⟨w2.heap.size, 3, none⟩ = some (.slice a3 n c3) := bo.cell 3 (by simp)
      clear bo
      have hxw := v4.trans hx
      have HT : Hid (TrR wo.drew (.agg #[.slice a0 n c0, .slice a1 m c1, .slice a2 n c2, .slice a3 n c3]) (atkT x P)) := Lib.hid (HRT.out.ext hx.drew)
      have HXX : Hid (Grid wo.drew (.slice ax n cx) x) := Lib.hid (H1.out.ext hxw.drew)
      have hli := pickI_len Q L t
      obtain ⟨b, hpr⟩ : ∃ b, protB x P i j down up = b := ⟨_, rfl⟩
      rw [hpr] at hqv
      have HPR := Lib.hid hpr; clear hpr
      go_wp2_with fail
      go_region_held3 (fun x => x.cell? ⟨w2.heap.size, 0, none⟩ = some (.slice a0 n c0) ∧ x.cell? ⟨w2.heap.size, 1, none⟩ = some (.slice a1 m c1) ∧ x.cell? ⟨w2.heap.size, 2, none⟩ = some (.slice a2 n c2) ∧ x.cell? ⟨w2.heap.size, 3, none⟩ = some (.slice a3 n c3) ∧ x.cell? ⟨b5, o5, none⟩ = some (.int .i64 i) ∧ x.cell? ⟨b5, o5 + 1, none⟩ = some (.int .i64 j))
        (first | exact ⟨E5.cell y0, E5.cell y1, E5.cell y2, E5.cell y3, E5.cell hx5, E5.cell hx6⟩ | exact ⟨y0, y1, y2, y3, hx5, hx6⟩ | go_keep)
        ((go_at_call 86; refine (isProtected_b b x P a0 a1 a2 a3 ax c0 c1 c2 c3 cx n m i j down up _ HN.out HM.out HP.out HT.out HXX.out hi' hj' HLV.out HPR.out).mono ?_; rintro e w5 ⟨rfl, u5⟩; have E5 := (Ext.refl wo).drew.trans u5))
      have hx5' := hx.trans E5
      have HW5 := Lib.hid (ownsRow_ext HW.out E5)
      have hs5 := hx5'.size
      clear hx5 hx6 y0 y1 y2 y3 hcq
      cases b
      · have HY := Lib.hid (pickI_yes (q := Q) (L := L) (t := t) (by rw [hqv]; rfl))
        clear hqv
        obtain ⟨M, hM⟩ : ∃ M, (pickI Q L t).length = M := ⟨_, rfl⟩
        rw [hM] at hli HW5
        have HMM := Lib.hid hM; clear hM
        have uc := (Ext.refl w5).alloc (.cells #[.slice (some ⟨b5, o5, none⟩) 2 cr] 36)
        have HOWN := Lib.hid (ownsRow_ext HW5.out uc)
        have hxc := hx5'.trans uc
        have HXC := Lib.hid hxc; clear hxc uc
        go_wp2_with (at_builtin; go_loud (refine app1 _ rfl _ _ 22 36 rfl (.slice none 0 0) 24 Try.underlying22 info_ints rfl w4.heap.size _ M _ rfl HOWN.out w5.heap.size 1 36 (.slice (some ⟨b5, o5, none⟩) 2 cr) rfl (Box.new _ _ _ rfl) rfl (by omega) (by omega) (by simp; omega) ?_))
        intro g cp' w6 hown6 hgrow hat hlt6
        have hx6 := HXC.out.of_upd (Upd.of_grown hgrow) (fun b hb => by have := (World.ownsRow.lt HOWN.out b hb).1; omega)
        have HX6 := Lib.hid hx6; clear hx6 hgrow
        have HO6 : Hid (w6.ownsRow w4.heap.size 36 1 (.slice (some ⟨g, 0, none⟩) (M + 1) cp') (pickI Q L (t + 1)).length ((pickI Q L (t + 1)).map (rvAt rvs))) := Lib.hid (by
          rw [HY.out, List.map_append, List.length_append, HMM.out]
          simp only [List.map_cons, List.map_nil, List.length_cons, List.length_nil]
          rw [ERV.out]; exact hown6)
        clear hown6
        go_wp2
        go_roundw
        case rel => exact ⟨t + 1, by omega, by go_num, HO6.out, HX6.out⟩
        case measure => simp [intOf]; omega
      · have HY := Lib.hid (pickI_no (q := Q) (L := L) (t := t) (by rw [hqv]; rfl))
        clear hqv
        go_wp2
        go_roundw
        case rel => exact ⟨t + 1, by omega, by go_num, by rw [HY.out]; exact HW5.out, hx5'⟩
        case measure => simp [intOf]; omega
    · have htN : t = L.length := by rw [HNN.out]; omega
      have HTN := Lib.hid htN; clear htN
      have hfin := pick_ownG (I := pickI Q L t) OG.out hx (fun s hs => by
        simp only [pickI, List.mem_filter, List.mem_range] at hs
        rw [← HTN.out]; exact hs.1) (List.Pairwise.filter _ List.nodup_range) HW.out hz4 hx.size
      rw [HTN.out, pickI_done, HOF.out, ← HTN.out] at hfin
      have HFI := Lib.hid (hfin.mono hz0 (Nat.le_refl _)); clear hfin
      have hxw := v4.trans hx
      go_wp2
      go_ret
      exact ⟨_, _, rfl, HFI.out, hxw⟩
end Go.Proofs.Ytodnkahnbidgaaa
