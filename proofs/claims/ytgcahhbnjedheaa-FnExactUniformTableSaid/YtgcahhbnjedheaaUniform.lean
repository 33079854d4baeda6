/- UniformTable, the spec's and the program's. -/
import Derived.Test.YtgcahhbnjedheaaNoiseOf
import Derived.Deep.RegionHeld3
namespace Go.Proofs.Ytgcahhbnjedheaa
open Go.RowKit

/-- element k of row c of a uniform table -/
def uniEl (c k : Nat) : Int := if k < 16 / (2 * c + 1) * (2 * c + 1) then ((k % (2 * c + 1) : Nat) : Int) - c else 0
def uniRow (c : Nat) : List Int := (List.range 16).map (uniEl c)
def uni (n : Nat) : List (List Int) := (List.range n).map uniRow
theorem uniRow_length (c : Nat) : (uniRow c).length = 16 := by simp [uniRow]
theorem ix_uniRow {c k : Nat} (h : k < 16) : ix (uniRow c) k = uniEl c k := by simp [ix, uniRow, List.getD, h]
theorem uni_length (n : Nat) : (uni n).length = n := by simp [uni]
theorem rowAt_uni {n k : Nat} (h : k < n) : rowAt (uni n) k = uniRow k := by simp [rowAt, uni, List.getD, h]

set_option maxHeartbeats 1600000 in
theorem yUniform_c (d : Nat) (w : World) (hd : d ≤ 5) :
    Calls Try.prog 35 #[.int .i64 d] w fun e w' => ∃ v' rvs, e = .returned (.agg #[v']) ∧ OwnG w.heap.size w'.heap.size w' v' rvs (uni (d + 1)) ∧ Ext w w' := by
  have hmk : ∀ w : World, (Instr.makeSlice 22 (.int .i64 16) (.int .i64 16)).run Try.prog w = .ok (.slice (some ⟨w.heap.size, 0, none⟩) 16 16) (w.alloc (.cells (madeCells #[.int .i64 0] 16) 3)) :=
    fun w => run_make_row' (P := Try.prog) 22 3 (.int .i64 0) 8 Try.underlying22 info_int rfl .i64 .i64 16 (by omega) (by omega) w
  go_enter Try.func35, Try.ntmps35
  go_wp2
  go_loopw [4] (fun i wr => ∃ (c : Nat) (v : Value) (rvs : List Value), c ≤ d + 1 ∧ i = .int .i64 c ∧ Box wr (w.heap.size + 1) 30 #[v] ∧ Box wr w.heap.size 30 #[.slice none 0 0] ∧ wr.ownsRow w.heap.size 22 1 v c rvs ∧
    (∀ j, j < c → Own w.heap.size wr.heap.size wr (rvAt rvs j) (uniRow j)) ∧ (∀ i j, i < c → j < c → i ≠ j → blk (rvAt rvs i) ≠ blk (rvAt rvs j)) ∧ Ext w wr) (fun i _ => d + 1 - (intOf i).toNat)
  case atStart =>
    exact ⟨0, .slice none 0 0, [], by omega, rfl, Box.new _ _ _ (by simp), (Box.new w _ _ rfl).alloc _, World.ownsRow_nil _ _ _ _, fun j hj => by omega, fun i j hi => by omega, ((Ext.refl w).alloc _).alloc _⟩
  case round =>
    obtain ⟨c, v, rvs, hc, rfl, hb1, hb0, hown, hrow, hdf, hx⟩ := hrel
    obtain ⟨wo, rfl⟩ : ∃ wo : World, wo = wr := ⟨_, rfl⟩
    have HOWN := Lib.hid hown
    have HROW := Lib.hid hrow; clear hrow
    have HDF := Lib.hid hdf; clear hdf
    have hlen : rvs.length = c := by have := hown.1; simpa using this
    have HLEN := Lib.hid hlen; clear hlen hown
    have hsz := hb1.lt
    by_cases hlt : c ≤ d
    · obtain ⟨q, hq⟩ : ∃ q : Nat, q = 16 / (2 * c + 1) := ⟨_, rfl⟩
      obtain ⟨M, hM⟩ : ∃ M : Nat, M = q * (2 * c + 1) := ⟨_, rfl⟩
      have hM16 : M ≤ 16 := by rw [hM, hq]; exact Nat.div_mul_le_self _ _
      have hq1 : (16 : Int) / (2 * (c : Int) + 1) = (q : Int) := by rw [hq]; rfl
      have hM1 : (q : Int) * (2 * (c : Int) + 1) = (M : Int) := by rw [hM]; rfl
      have HQ := Lib.hid hq; clear hq
      have HM := Lib.hid hM; clear hM
      go_wp2
      go_loopw [7] (fun i wi => ∃ k : Nat, k ≤ M ∧ i = .int .i64 k ∧ wi.rowIs wo.heap.size 3 16 (fun j => if j < k then .int .i64 (uniEl c j) else .int .i64 0) ∧ Upd (fun b => b = wo.heap.size) (wo.alloc (.cells (madeCells #[.int .i64 0] 16) 3)) wi) (fun i _ => M - (intOf i).toNat)
      case atStart => exact ⟨0, Nat.zero_le _, rfl, (World.rowIs_made _ _ _ _).congr (fun j _ => by simp), Upd.refl _⟩
      case round =>
        obtain ⟨k, hk, rfl, hr, hu⟩ := hrel
        have HR := Lib.hid hr
        by_cases hkt : k < M
        · have hcell := hr.cell (i := k) (by omega)
          have hfr := hr.frozen k
          clear hr
          obtain ⟨r, hr⟩ : ∃ r : Nat, r = k % (2 * c + 1) := ⟨_, rfl⟩
          have hr1 : (k : Int) % (2 * (c : Int) + 1) = (r : Int) := by rw [hr]; rfl
          have hr2 : r ≤ 16 := by have := Nat.mod_le k (2 * c + 1); omega
          have HRR := Lib.hid hr; clear hr
          go_wp2
          go_roundw
          case rel =>
            refine ⟨k + 1, by omega, by go_num, (HR.out.set k _).congr (fun j hj => ?_), hu.setCell _ (fun _ => rfl)⟩
            by_cases e : j = k
            · subst e
              have : uniEl c j = (r : Int) - c := by unfold uniEl; rw [if_pos (by rw [← HQ.out, ← HM.out]; exact hkt), HRR.out]
              simp [this]
            · have : (j < k + 1) = (j < k) := by apply propext; omega
              simp [e, this]
          case measure => simp [intOf]; omega
        · clear hr
          have e0 := (Ext.refl wo).alloc (.cells (madeCells #[.int .i64 0] 16) 3)
          have b1 := (hb1.ext e0).upd hu (by omega)
          have b0 := (hb0.ext e0).upd hu (by omega)
          have c1 := b1.cell 0 (by simp)
          have f1 := b1.free 0
          have ei : Ext wo wr := e0.of_upd hu (fun b hb => by omega)
          have own1 := Lib.hid (HOWN.out.kept (w' := wr) (row := none) ⟨ei.os, ei.tape, ei.output, ei.size, fun k hk _ => ei.block hk⟩ (by cases v.ownBlock <;> simp))
          have hszi := ei.size
          go_wp2_with (at_builtin; go_loud (refine app1 _ rfl _ _ 28 22 rfl (.slice none 0 0) 24 Try.underlying28 info_ints rfl w.heap.size v c rvs rfl (own1.out.alloc _) wr.heap.size 1 22 (.slice (some ⟨wo.heap.size, 0, none⟩) 16 16) rfl (Box.new _ _ _ rfl) rfl (by omega) (by omega) (by simp; omega) ?_))
          intro g cp w2 hown2 hgrow hat hlt2
          have hne1 := Box.ne_ownsRow hb1 HOWN.out (by decide)
          have hne0 := Box.ne_ownsRow hb0 HOWN.out (by decide)
          have e1 := (Ext.refl wr).alloc (.cells #[.slice (some ⟨wo.heap.size, 0, none⟩) 16 16] 22)
          have u2 := Upd.of_grown hgrow
          have b12 := (b1.ext e1).upd u2 hne1
          have b02 := (b0.ext e1).upd u2 hne0
          have c12 := b12.cell 0 (by simp)
          have f12 := b12.free 0
          have nrow : Own w.heap.size wr.heap.size wr (.slice (some ⟨wo.heap.size, 0, none⟩) 16 16) (uniRow c) :=
            Own.of_rowIs HR.out (uniRow_length c) (fun j hj => by
              show (if j < k then Value.int .i64 (uniEl c j) else .int .i64 0) = _
              rw [ix_uniRow hj]
              by_cases e : j < k
              · simp [e]
              · have : uniEl c j = 0 := by unfold uniEl; rw [if_neg (by rw [← HQ.out, ← HM.out]; omega)]
                simp [e, this]) (by omega) HR.out.lt (by omega)
          have NROW := Lib.hid nrow; clear nrow
          have HAT := Lib.hid hat; clear hat
          have HO2 := Lib.hid hown2; clear hown2
          have U2 := Lib.hid u2; clear u2 hgrow hne1 hne0
          go_wp2
          go_roundw
          case rel =>
            have hsz2 : w2.heap.size = (w2.setCell ⟨w.heap.size + 1, 0, none⟩ (.slice (some ⟨g, 0, none⟩) (c + 1) cp)).heap.size := by simp [World.setCell]
            have h12 : wr.heap.size ≤ w2.heap.size := by have := U2.out.size; simp at this; omega
            have us : Upd (fun b => b = w.heap.size + 1) w2 (w2.setCell ⟨w.heap.size + 1, 0, none⟩ (.slice (some ⟨g, 0, none⟩) (c + 1) cp)) := (Upd.refl _).setCell _ (fun _ => rfl)
            have hvb : ∀ b, v.ownBlock = some b → w.heap.size ≤ b := fun b hb => (HOWN.out.lt b hb).1
            have keep : ∀ (x : Value) (ys : List Int), ys ≠ [] → Own w.heap.size wr.heap.size wr x ys → Own w.heap.size w2.heap.size (w2.setCell ⟨w.heap.size + 1, 0, none⟩ (.slice (some ⟨g, 0, none⟩) (c + 1) cp)) x ys := fun x ys hy ho => by
              have h1 := (ho.ext e1).upd U2.out (fun hx => (ho.ext e1).ne_ownsRow (own1.out.alloc _) hx)
              refine (h1.upd us (fun hx => ?_)).mono (Nat.le_refl _) h12
              obtain ⟨ao', cap', rfl, _, _, h4⟩ := h1
              rcases h4 with h4 | ⟨g', o', c', rfl, _, _, hg', _⟩
              · exact absurd h4 hx
              · simp only [blk, ablk]; intro e; subst e
                have h' : w2.heap[w.heap.size + 1]? = some (.cells _ 30 (0, 0)) := b12
                rw [h'] at hg'; simp at hg'
            have hne : ∀ j, uniRow j ≠ [] := fun j e => by have := uniRow_length j; rw [e] at this; simp at this
            have hold : ∀ j, j < c → rvAt (rvs ++ [.slice (some ⟨wo.heap.size, 0, none⟩) 16 16]) j = rvAt rvs j := fun j hj => rvAt_append_left (by rw [HLEN.out]; exact hj)
            have hnew : rvAt (rvs ++ [.slice (some ⟨wo.heap.size, 0, none⟩) 16 16]) c = .slice (some ⟨wo.heap.size, 0, none⟩) 16 16 := by
              have := @rvAt_append_len rvs (.slice (some ⟨wo.heap.size, 0, none⟩) 16 16); rwa [HLEN.out] at this
            refine ⟨c + 1, .slice (some ⟨g, 0, none⟩) (c + 1) cp, rvs ++ [.slice (some ⟨wo.heap.size, 0, none⟩) 16 16], by omega, by go_num, b12.set 0 _, b02.setOther (by simp) _, ?_, fun j hj => ?_, fun i j hi hj hij => ?_, ?_⟩
            · refine HO2.out.kept (w' := w2.setCell ⟨w.heap.size + 1, 0, none⟩ (.slice (some ⟨g, 0, none⟩) (c + 1) cp)) (row := some (w.heap.size + 1)) ⟨rfl, rfl, rfl, by simp [World.setCell], fun k hk hs => us.block k hk (fun e => hs (by rw [e]))⟩ (Or.inr ?_)
              exact Box.ne_ownsRow b12 HO2.out (by decide)
            · rw [← hsz2]
              by_cases e : j = c
              · subst e; rw [hnew]; exact keep _ _ (hne _) NROW.out
              · rw [hold j (by omega)]; exact keep _ _ (hne _) (((HROW.out j (by omega)).ext ei).mono (Nat.le_refl _) ei.size)
            · by_cases e1' : i = c
              · subst e1'
                rw [hnew, hold j (by omega)]
                have := (HROW.out j (by omega)).range (hne _)
                show wo.heap.size ≠ blk (rvAt rvs j); omega
              · rw [hold i (by omega)]
                by_cases e2' : j = c
                · subst e2'
                  rw [hnew]
                  have := (HROW.out i (by omega)).range (hne _)
                  show blk (rvAt rvs i) ≠ wo.heap.size; omega
                · rw [hold j (by omega)]; exact HDF.out i j (by omega) (by omega) hij
            · exact (((hx.trans ei).trans e1).of_upd U2.out (fun b hb => hvb b hb)).setCell _ (by simp)
          case measure => simp [intOf]; omega
    · have hcd : c = d + 1 := by omega
      have HCD := Lib.hid hcd; clear hcd
      have c1 := hb1.cell 0 (by simp)
      have f1 := hb1.free 0
      have c0 := hb0.cell 0 (by simp)
      have f0 := hb0.free 0
      have hvf : ∃ av cv, v = .slice av c cv := by
        rcases HOWN.out.2 with ⟨h1, h2⟩ | ⟨g, cp, cur, h1, _⟩
        · exact ⟨none, 0, by rw [h1, h2]⟩
        · exact ⟨_, _, h1⟩
      obtain ⟨av, cv, rfl⟩ := hvf
      go_wp2
      refine bodyPost_ret (v := .agg #[.slice av c cv]) (by simp [results, Try.results35, go_sem, c0]) rfl ⟨_, rvs, rfl, ?_, hx.setCell _ (Nat.le_refl _)⟩
      have hg : OwnG w.heap.size wo.heap.size wo (.slice av c cv) rvs (uni (d + 1)) := OwnG.of_ownsRow HOWN.out (by rw [uni_length, HCD.out]) (Nat.le_refl _)
        (fun j hj => by rw [uni_length] at hj; rw [rowAt_uni hj]; exact HROW.out j (by rw [HCD.out]; exact hj))
        (fun i j hi hj hij _ _ => by rw [uni_length] at hi hj; exact HDF.out i j (by rw [HCD.out]; exact hi) (by rw [HCD.out]; exact hj) hij)
      exact (hg.put_box hb0 (by decide) (by decide) _).mono (Nat.le_refl _) (by simp [World.setCell])

/-- UniformTable's two results -/
def uniB (d : Int) : Bool := decide (0 ≤ d ∧ d ≤ 5)
def uniV (d : Int) : List (List Int) := if uniB d = true then uni (d.toNat + 1) else []

set_option maxHeartbeats 800000 in
theorem specUniform_c (d : Int) (w : World) :
    Calls Try.prog 13 #[.int .i64 d] w (RetGrid (fun v' => .tuple #[.agg #[v'], .bool (uniB d)]) w (uniV d)) := by
  have b0 := Box.new w 30 #[.slice none 0 0] rfl
  have u0 := (Ext.refl w).alloc (.cells #[.slice none 0 0] 30)
  cases hk : (decide ((0 : Int) ≤ d) && decide (d ≤ 5))
  · have hB : uniB d = false := by
      simp only [uniB, decide_eq_false_iff_not]; intro hh; simp [hh] at hk
    have HK := Lib.hid hk; clear hk
    have HB := Lib.hid hB; clear hB
    go_enter Try.func13, Try.ntmps13
    go_wp2_with fail
    refine (l1In_b false d 0 5 _ HK.out).mono ?_
    rintro e w' ⟨rfl, rfl⟩
    go_wp2
    refine bodyPost_ret (v := .tuple #[.agg #[.slice none 0 0], .bool false]) (by simp [results, Try.results13, go_sem]) rfl ⟨_, [], by rw [HB.out], ?_, ?_⟩
    · simp only [uniV, HB.out]; exact OwnG.nil
    · first | exact u0 | exact u0.setCell _ (by simp)
  · have hd : 0 ≤ d ∧ d ≤ 5 := by simpa using hk
    have hB : uniB d = true := by simp only [uniB, decide_eq_true_eq]; exact hd
    have HK := Lib.hid hk; clear hk
    have HB := Lib.hid hB; clear hB
    obtain ⟨n, rfl⟩ := Int.eq_ofNat_of_zero_le hd.1
    go_enter Try.func13, Try.ntmps13
    go_wp2_with fail
    refine (l1In_b true n 0 5 _ HK.out).mono ?_
    rintro e w' ⟨rfl, rfl⟩
    go_wp2_with fail
    refine (yUniform_c n _ (by omega)).mono ?_
    rintro e w1 ⟨x1, r1, rfl, o1, u1⟩
    have b1 := b0.ext u1
    have c1 := b1.cell 0 (by simp)
    have f1 := b1.free 0
    have O1 := Lib.hid o1
    have hsz := u1.size
    obtain ⟨a1, cp1, rfl, q1, q2, q3⟩ := o1
    clear q3
    go_wp2
    refine bodyPost_ret (v := .tuple #[.agg #[.slice a1 (uni (n + 1)).length cp1], .bool true]) (by simp [results, Try.results13, go_sem, c1]) rfl ⟨_, r1, by rw [HB.out], ?_, (u0.trans u1).setCell _ (Nat.le_refl _)⟩
    have : uniV (n : Int) = uni (n + 1) := by simp [uniV, HB.out]
    rw [this]
    exact (O1.out.put_box b1 (by decide) (by decide) _).mono (by simp) (by simp [World.setCell])

set_option maxHeartbeats 1600000 in
theorem implUniform_c (d : Int) (w : World) :
    Calls Try.prog 14 #[.int .i64 d] w (RetGrid (fun v' => .tuple #[.agg #[v'], .bool (uniB d)]) w (uniV d)) := by
  have b0 := Box.new w 30 #[.slice none 0 0] rfl
  have u0 := (Ext.refl w).alloc (.cells #[.slice none 0 0] 30)
  by_cases hd : 0 ≤ d ∧ d ≤ 5
  · have hB : uniB d = true := by simp only [uniB, decide_eq_true_eq]; exact hd
    have HB := Lib.hid hB; clear hB
    obtain ⟨n, rfl⟩ := Int.eq_ofNat_of_zero_le hd.1
    have hV : uniV (n : Int) = uni (n + 1) := by simp [uniV, HB.out]
    rw [hV]
    clear hV
    have hmk : ∀ w : World, (Instr.makeSlice 22 (.int .i64 16) (.int .i64 16)).run Try.prog w = .ok (.slice (some ⟨w.heap.size, 0, none⟩) 16 16) (w.alloc (.cells (madeCells #[.int .i64 0] 16) 3)) :=
      fun w => run_make_row' (P := Try.prog) 22 3 (.int .i64 0) 8 Try.underlying22 info_int rfl .i64 .i64 16 (by omega) (by omega) w
    have hmk2 : ∀ w : World, (Instr.makeSlice 28 (.int .i64 ((n : Int) + 1)) (.int .i64 ((n : Int) + 1))).run Try.prog w = .ok (.slice (some ⟨w.heap.size, 0, none⟩) (n + 1) (n + 1)) (w.alloc (.cells (madeCells #[.slice none 0 0] (n + 1)) 22)) :=
      fun w => run_make_row' (P := Try.prog) 28 22 (.slice none 0 0) 24 Try.underlying28 info_ints rfl .i64 .i64 (n + 1) (by omega) (by omega) w
    have hd1 : decide ((n : Int) < 0) = false := by simp
    have hd2 : decide ((5 : Int) < (n : Int)) = false := by simp; omega
    go_enter Try.func14, Try.ntmps14
    go_wp2
    go_loopw [22] (fun i wr => ∃ (c : Nat) (rvs : List Value), c ≤ n + 1 ∧ i = .int .i64 c ∧ rvs.length = c ∧ wr.rowIs (w.heap.size + 1) 22 (n + 1) (fun j => if j < c then rvAt rvs j else .slice none 0 0) ∧
      (∀ j, j < c → Own w.heap.size wr.heap.size wr (rvAt rvs j) (uniRow j)) ∧ (∀ i j, i < c → j < c → i ≠ j → blk (rvAt rvs i) ≠ blk (rvAt rvs j)) ∧
      Box wr (w.heap.size + 2) 30 #[.slice (some ⟨w.heap.size + 1, 0, none⟩) (n + 1) (n + 1)] ∧ Box wr w.heap.size 30 #[.slice none 0 0] ∧ Ext w wr) (fun i _ => n + 1 - (intOf i).toNat)
    case atStart =>
      refine ⟨0, [], by omega, rfl, rfl, ?_, fun j hj => by omega, fun i j hi => by omega, Box.new _ _ _ (by simp), (b0.alloc _).alloc _, (u0.alloc _).alloc _⟩
      have := World.rowIs_made (w.alloc (.cells #[.slice none 0 0] 30)) (.slice none 0 0) (n + 1) 22
      have h2 := (this.congr (g := fun j => if j < 0 then rvAt [] j else .slice none 0 0) (fun j _ => by simp)).alloc (.cells #[.slice (some ⟨w.heap.size + 1, 0, none⟩) (n + 1) (n + 1)] 30)
      simpa using h2
    case round =>
      obtain ⟨c, rvs, hc, rfl, hlen, hsp, hrow, hdf, hbt, hb0, hx⟩ := hrel
      obtain ⟨wo, rfl⟩ : ∃ wo : World, wo = wr := ⟨_, rfl⟩
      have HLEN := Lib.hid hlen; clear hlen
      have HSP := Lib.hid hsp; clear hsp
      have HROW := Lib.hid hrow; clear hrow
      have HDF := Lib.hid hdf; clear hdf
      have hsz := hbt.lt
      by_cases hlt : c < n + 1
      · have ct := hbt.cell 0 (by simp)
        have cs := HSP.out.cell hlt
        have fs := HSP.out.frozen c
        have e1 := (Ext.refl wo).alloc (.cells (madeCells #[.int .i64 0] 16) 3)
        have cs1 := (rowIs_ext HSP.out e1).cell hlt
        have fs1 := (rowIs_ext HSP.out e1).frozen c
        have ct1 := Ext.cell e1 ct
        have hc0 : (0 : Int) ≤ (c : Int) := by omega
        have hc1 : (c : Int) < (n : Int) + 1 := by omega
        go_wp2_with fail
        go_region_held3 (fun w' => w'.cell? ⟨w.heap.size + 2, 0, none⟩ = some (.slice (some ⟨w.heap.size + 1, 0, none⟩) (n + 1) (n + 1))) (go_keep) (fail)
        obtain ⟨q, hq⟩ : ∃ q : Nat, q = 16 / (2 * c + 1) := ⟨_, rfl⟩
        obtain ⟨M, hM⟩ : ∃ M : Nat, M = q * (2 * c + 1) := ⟨_, rfl⟩
        have hM16 : M ≤ 16 := by rw [hM, hq]; exact Nat.div_mul_le_self _ _
        have hq1 : (16 : Int) / (2 * (c : Int) + 1) = (q : Int) := by rw [hq]; rfl
        have hM1 : (q : Int) * (2 * (c : Int) + 1) = (M : Int) := by rw [hM]; rfl
        have HQ := Lib.hid hq; clear hq
        have HM := Lib.hid hM; clear hM
        have HE1 := Lib.hid e1; clear e1 cs1 fs1 ct1
        go_wp2
        go_loopw [37] (fun i wi => ∃ k : Nat, k ≤ M ∧ i = .int .i64 k ∧ wi.rowIs wo.heap.size 3 16 (fun j => if j < k then .int .i64 (uniEl c j) else .int .i64 0) ∧
          Upd (fun b => b = wo.heap.size) ((wo.alloc (.cells (madeCells #[.int .i64 0] 16) 3)).setCell ⟨w.heap.size + 1, c, none⟩ (.slice (some ⟨wo.heap.size, 0, none⟩) 16 16)) wi) (fun i _ => M - (intOf i).toNat)
        case atStart =>
          refine ⟨0, Nat.zero_le _, rfl, ?_, (Upd.refl _).drew⟩
          have := (World.rowIs_made wo (.int .i64 0) 16 3).setOther (a := ⟨w.heap.size + 1, c, none⟩) (by simp; omega) (.slice (some ⟨wo.heap.size, 0, none⟩) 16 16)
          exact (this.congr (fun j _ => by simp)).drew
        case round =>
          obtain ⟨k, hk, rfl, hr, hu⟩ := hrel
          have hbt2 : Box wr (w.heap.size + 2) 30 #[.slice (some ⟨w.heap.size + 1, 0, none⟩) (n + 1) (n + 1)] := ((hbt.ext HE1.out).setOther (by simp) _).upd hu (by omega)
          have hsp2 : wr.rowIs (w.heap.size + 1) 22 (n + 1) (fun j => if j = c then .slice (some ⟨wo.heap.size, 0, none⟩) 16 16 else if j < c then rvAt rvs j else .slice none 0 0) :=
            ((rowIs_ext HSP.out HE1.out).set c _).of_block (hu.block _ (by simp [World.setCell]; omega) (by omega))
          have ct2 := hbt2.cell 0 (by simp)
          have cs2 := hsp2.cell hlt
          simp only [if_true] at cs2
          have HR := Lib.hid hr
          have HSP2 := Lib.hid hsp2; clear hsp2
          by_cases hkt : k < M
          · have hcell := hr.cell (i := k) (by omega)
            have hfr := hr.frozen k
            clear hr
            obtain ⟨r, hr⟩ : ∃ r : Nat, r = k % (2 * c + 1) := ⟨_, rfl⟩
            have hr1 : (k : Int) % (2 * (c : Int) + 1) = (r : Int) := by rw [hr]; rfl
            have hr2 : r ≤ 16 := by have := Nat.mod_le k (2 * c + 1); omega
            have HRR := Lib.hid hr; clear hr
            have hk0 : (0 : Int) ≤ (k : Int) := by omega
            have hk16 : (k : Int) < 16 := by omega
            have hz : ¬ (2 * (c : Int) + 1 = 0) := by omega
            have n1 : (⟨w.heap.size + 2, 0, none⟩ : Addr).block ≠ (⟨wo.heap.size, k, none⟩ : Addr).block := by show w.heap.size + 2 ≠ wo.heap.size; omega
            have n2 : (⟨w.heap.size + 1, c, none⟩ : Addr).block ≠ (⟨wo.heap.size, k, none⟩ : Addr).block := by show w.heap.size + 1 ≠ wo.heap.size; omega
            have hz2 : (k : Int).tmod (2 * (c : Int) + 1) = (r : Int) := by rw [Int.tmod_eq_emod_of_nonneg hk0]; exact hr1
            have hw2 : IntKind.i64.wrap (r : Int) = (r : Int) := IntWalk.i64_in _ (by omega)
            have hw1 : IntKind.i64.wrap ((r : Int) - (c : Int)) = (r : Int) - (c : Int) := IntWalk.i64_in _ (by omega)
            go_wp2_with fail
            go_region_held3 (fun w' => w'.cell? ⟨w.heap.size + 2, 0, none⟩ = some (.slice (some ⟨w.heap.size + 1, 0, none⟩) (n + 1) (n + 1)) ∧ w'.cell? ⟨w.heap.size + 1, c, none⟩ = some (.slice (some ⟨wo.heap.size, 0, none⟩) 16 16)) (first | exact ⟨(cell_far_drew n1).trans ct2, (cell_far_drew n2).trans cs2⟩ | go_keep) (fail)
            clear hw1 hw2 hz hz2
            go_wp2
            go_roundw
            case rel =>
              refine ⟨_, _, _, _, _, _, _, _, _, _, _, _, _, _, _, _, _, ⟨k + 1, by omega, by go_num, ((HR.out.set k (.int .i64 ((r : Int) - (c : Int)))).drew.congr (fun j hj => ?_)), (hu.setCell _ (fun _ => rfl)).drew⟩, by rw [hq1]; rfl⟩
              by_cases e : j = k
              · subst e
                have : uniEl c j = (r : Int) - c := by unfold uniEl; rw [if_pos (by rw [← HQ.out, ← HM.out]; exact hkt), HRR.out]
                simp [this]
              · have : (j < k + 1) = (j < k) := by apply propext; omega
                simp [e, this]
            case measure => simp [intOf]; omega
          · clear hr
            have us : Upd (fun b => b = w.heap.size + 1) wo ((wo.alloc (.cells (madeCells #[.int .i64 0] 16) 3)).setCell ⟨w.heap.size + 1, c, none⟩ (.slice (some ⟨wo.heap.size, 0, none⟩) 16 16)) := (HE1.out.upd).setCell _ (fun _ => rfl)
            have ux : Ext w wr := ((hx.of_upd us (fun b hb => by omega)).of_upd hu (fun b hb => by omega))
            have hb02 := (((hb0.ext HE1.out).setOther (a := ⟨w.heap.size + 1, c, none⟩) (by simp) (.slice (some ⟨wo.heap.size, 0, none⟩) 16 16)).upd hu (by omega))
            have nrow : Own w.heap.size wr.heap.size wr (.slice (some ⟨wo.heap.size, 0, none⟩) 16 16) (uniRow c) :=
              Own.of_rowIs HR.out (uniRow_length c) (fun j hj => by
                show (if j < k then Value.int .i64 (uniEl c j) else .int .i64 0) = _
                rw [ix_uniRow hj]
                by_cases e : j < k
                · simp [e]
                · have : uniEl c j = 0 := by unfold uniEl; rw [if_neg (by rw [← HQ.out, ← HM.out]; omega)]
                  simp [e, this]) (by have := hx.size; omega) HR.out.lt (by omega)
            have NROW := Lib.hid nrow; clear nrow
            have hszr := HR.out.lt
            go_wp2
            go_roundw
            case rel =>
              have hne : ∀ j, uniRow j ≠ [] := fun j e => by have := uniRow_length j; rw [e] at this; simp at this
              have hold : ∀ j, j < c → rvAt (rvs ++ [.slice (some ⟨wo.heap.size, 0, none⟩) 16 16]) j = rvAt rvs j := fun j hj => rvAt_append_left (by rw [HLEN.out]; exact hj)
              have hnew : rvAt (rvs ++ [.slice (some ⟨wo.heap.size, 0, none⟩) 16 16]) c = .slice (some ⟨wo.heap.size, 0, none⟩) 16 16 := by
                have := @rvAt_append_len rvs (.slice (some ⟨wo.heap.size, 0, none⟩) 16 16); rwa [HLEN.out] at this
              refine ⟨c + 1, rvs ++ [.slice (some ⟨wo.heap.size, 0, none⟩) 16 16], by omega, by go_num, by simp [HLEN.out], HSP2.out.congr (fun j hj => ?_), fun j hj => ?_, fun i j hi hj hij => ?_, hbt2, hb02, ux⟩
              · by_cases e : j = c
                · subst e; simp [hnew]
                · by_cases e2 : j < c
                  · have : j < c + 1 := by omega
                    simp [e, e2, this, hold j e2]
                  · have : ¬ j < c + 1 := by omega
                    simp [e, e2, this]
              · by_cases e : j = c
                · subst e; rw [hnew]; exact NROW.out
                · rw [hold j (by omega)]
                  have h1 := HROW.out j (by omega)
                  have h2 := h1.upd us (fun hy => h1.ne_row HSP.out hy)
                  exact (h2.upd hu (fun hy e => by have := h1.range hy; omega)).mono (Nat.le_refl _) (by omega)
              · by_cases e1' : i = c
                · subst e1'
                  rw [hnew, hold j (by omega)]
                  have := (HROW.out j (by omega)).range (hne _)
                  show wo.heap.size ≠ blk (rvAt rvs j); omega
                · rw [hold i (by omega)]
                  by_cases e2' : j = c
                  · subst e2'
                    rw [hnew]
                    have := (HROW.out i (by omega)).range (hne _)
                    show blk (rvAt rvs i) ≠ wo.heap.size; omega
                  · rw [hold j (by omega)]; exact HDF.out i j (by omega) (by omega) hij
            case measure => simp [intOf]; omega
      · have hcd : c = n + 1 := by omega
        have HCD := Lib.hid hcd; clear hcd
        have ct := hbt.cell 0 (by simp)
        have c0 := hb0.cell 0 (by simp)
        have f0 := hb0.free 0
        go_wp2
        refine bodyPost_ret (v := .tuple #[.agg #[.slice (some ⟨w.heap.size + 1, 0, none⟩) (n + 1) (n + 1)], .bool true]) (by simp [results, Try.results14, go_sem, c0]) rfl ⟨_, rvs, by rw [HB.out], ?_, hx.setCell _ (Nat.le_refl _)⟩
        have hg : OwnG w.heap.size wo.heap.size wo (.slice (some ⟨w.heap.size + 1, 0, none⟩) (n + 1) (n + 1)) rvs (uni (n + 1)) := by
          obtain ⟨cc, h1, h2, h3⟩ := HSP.out
          refine ⟨some ⟨w.heap.size + 1, 0, none⟩, n + 1, by rw [uni_length], by rw [uni_length]; exact Nat.le_refl _, by omega, ?_, .inr ⟨w.heap.size + 1, 0, cc, rfl, by omega, by omega, h1, fun j hj => ?_⟩, fun j hj => ?_, fun i j hi hj hij _ _ => ?_⟩
          · rw [uni_length, HLEN.out, HCD.out]
          · rw [uni_length] at hj
            rw [Nat.zero_add, h3 j hj]; show some (if j < c then rvAt rvs j else Value.slice none 0 0) = _; rw [if_pos (by rw [HCD.out]; exact hj)]
          · rw [uni_length] at hj; rw [rowAt_uni hj]; exact HROW.out j (by rw [HCD.out]; exact hj)
          · rw [uni_length] at hi hj; exact HDF.out i j (by rw [HCD.out]; exact hi) (by rw [HCD.out]; exact hj) hij
        exact (hg.put_box hb0 (by decide) (by decide) _).mono (Nat.le_refl _) (by simp [World.setCell])
  · have hB : uniB d = false := by simp only [uniB, decide_eq_false_iff_not]; exact hd
    have HB := Lib.hid hB; clear hB
    have hV : uniV d = [] := by simp [uniV, HB.out]
    rw [hV]
    clear hV
    by_cases h1 : d < 0
    · go_enter Try.func14, Try.ntmps14
      go_wp2
      refine bodyPost_ret (v := .tuple #[.agg #[.slice none 0 0], .bool false]) (by simp [results, Try.results14, go_sem]) rfl ⟨_, [], by rw [HB.out], OwnG.nil, ?_⟩
      first | exact u0 | exact u0.setCell _ (by simp)
    · have h2 : 5 < d := by omega
      clear hd
      go_enter Try.func14, Try.ntmps14
      go_wp2
      refine bodyPost_ret (v := .tuple #[.agg #[.slice none 0 0], .bool false]) (by simp [results, Try.results14, go_sem]) rfl ⟨_, [], by rw [HB.out], OwnG.nil, ?_⟩
      first | exact u0 | exact u0.setCell _ (by simp)
end Go.Proofs.Ytgcahhbnjedheaa
