/- swOwn: a copy of records, built by append. -/
import Derived.Test.YtkkoidoinbiikaaOwnR
namespace Go.Proofs.Ytkkoidoinbiikaa
open Go.RowKit

def pcells (rvs : List Value) (l : List Pe) (n : Nat) : List Value := (List.range (n * 3)).map (peCell rvs l)
theorem pcells_len (rvs : List Value) (l : List Pe) (n : Nat) : (pcells rvs l n).length = n * 3 := by simp [pcells]
theorem pcells_at {rvs : List Value} {l : List Pe} {n i : Nat} (h : i < n * 3) : (pcells rvs l n)[i]? = some (peCell rvs l i) := by simp [pcells, h]
theorem pcells_succ (rvs : List Value) (l : List Pe) (n : Nat) : pcells rvs l (n + 1) = pcells rvs l n ++ [.int .i64 (peAt l n).area, .int .i64 (peAt l n).house, rvAt rvs n] := by
  have e : (n + 1) * 3 = n * 3 + 1 + 1 + 1 := by omega
  simp only [pcells, e, List.range_succ, List.map_append, List.map_cons, List.map_nil, peCell0, peCell1, peCell2, List.append_assoc, List.cons_append, List.nil_append]
theorem pcells_congr {rvs rvs' : List Value} {l : List Pe} {n : Nat} (h : ∀ j, j < n → rvAt rvs j = rvAt rvs' j) : pcells rvs l n = pcells rvs' l n := by
  unfold pcells
  apply List.map_congr_left
  intro i hi
  have hi' : i < n * 3 := by simpa using hi
  simp only [peCell, h (i / 3) (by omega)]
/-- the first n records of l, in blocks of the call's own, the slice built by append -/
structure PRow (lo : Nat) (w : World) (v : Value) (rvs : List Value) (l : List Pe) (n : Nat) : Prop where
  own : w.ownsRow lo 50 3 v n (pcells rvs l n)
  len : rvs.length = n
  row : ∀ k, k < n → Own lo w.heap.size w (rvAt rvs k) (peAt l k).vals
  diff : ∀ j k, j < n → k < n → j ≠ k → (peAt l j).vals ≠ [] → (peAt l k).vals ≠ [] → blk (rvAt rvs j) ≠ blk (rvAt rvs k)
namespace PRow
variable {lo : Nat} {w w' : World} {v : Value} {rvs : List Value} {l : List Pe} {n : Nat}
theorem nil : PRow lo w (.slice none 0 0) [] l 0 := ⟨World.ownsRow_nil _ _ _ _, rfl, fun k hk => by omega, fun j k hj => by omega⟩
theorem ext (h : PRow lo w v rvs l n) (u : Ext w w') : PRow lo w' v rvs l n :=
  ⟨World.ownsRow.kept h.own (w' := w') (row := none) ⟨u.os, u.tape, u.output, u.size, fun k hk _ => u.block hk⟩ (by cases v.ownBlock <;> simp), h.len, fun k hk => ((h.row k hk).ext u).mono (Nat.le_refl _) u.size, h.diff⟩
theorem form (h : PRow lo w v rvs l n) : ∃ a c, v = .slice a n c := by
  rcases h.own.2 with ⟨h1, h2⟩ | ⟨g, cp, cur, h1, _⟩
  · exact ⟨none, 0, by rw [h1, h2]⟩
  · exact ⟨_, _, h1⟩
theorem blk (h : PRow lo w v rvs l n) {b : Nat} (hb : v.ownBlock = some b) : lo ≤ b ∧ b < w.heap.size := World.ownsRow.lt h.own b hb
theorem grew {u : World} (h : PRow lo w v rvs l n) (hx : Ext u w) (hlo : u.heap.size ≤ lo) (hg : w.grownBy w' v.ownBlock) : Ext u w' :=
  hx.of_upd (Upd.of_grown hg) (fun b hb => by have := (h.blk hb).1; omega)
theorem typed (h : PRow lo w v rvs l n) {b : Nat} (hb : v.ownBlock = some b) : ∃ c, w.heap[b]? = some (.cells c 50 (0, 0)) := by
  rcases h.own.2 with ⟨h1, _⟩ | ⟨g, cp, cur, h1, _, hg, _⟩
  · rw [h1] at hb; cases hb
  · rw [h1] at hb
    simp only [Value.ownBlock, Option.some.injEq] at hb
    subst hb; exact ⟨_, hg⟩
theorem push {rv v' : Value} {hi : Nat} (h : PRow lo w v rvs l n) (hlo : lo ≤ hi) (hr : Own hi w.heap.size w rv (peAt l n).vals) (hhi : ∀ k, k < n → Own lo hi w (rvAt rvs k) (peAt l k).vals)
    (hg : w.grownBy w' v.ownBlock) (hv : w'.ownsRow lo 50 3 v' (n + 1) (pcells rvs l n ++ [.int .i64 (peAt l n).area, .int .i64 (peAt l n).house, rv])) : PRow lo w' v' (rvs ++ [rv]) l (n + 1) := by
  have hold : ∀ j, j < n → rvAt (rvs ++ [rv]) j = rvAt rvs j := fun j hj => rvAt_append_left (by rw [h.len]; exact hj)
  have hnew : rvAt (rvs ++ [rv]) n = rv := by have := @rvAt_append_len rvs rv; rwa [h.len] at this
  have hsz : w.heap.size ≤ w'.heap.size := hg.size
  have keep : ∀ {lo' hi' : Nat} {x : Value} {xs : List Int}, Own lo' hi' w x xs → Own lo' hi' w' x xs := fun {lo' hi' x xs} ho => by
    refine ho.upd (Upd.of_grown hg) (fun hne hb => ?_)
    obtain ⟨c, hc⟩ := h.typed hb
    obtain ⟨ao, cap, rfl, _, _, h3⟩ := ho
    rcases h3 with h3 | ⟨g', o', c', rfl, _, _, hg', _⟩
    · exact hne h3
    · simp only [Go.Proofs.Ytkkoidoinbiikaa.blk, ablk] at hc
      rw [hg'] at hc; simp at hc
  refine ⟨?_, by simp [h.len], fun k hk => ?_, fun j k hj hk hjk h1 h2 => ?_⟩
  · rw [pcells_succ, hnew, pcells_congr (fun j hj => hold j hj)]; exact hv
  · by_cases e : k = n
    · subst e; rw [hnew]; exact (keep hr).mono hlo hsz
    · rw [hold k (by omega)]; exact (keep (h.row k (by omega))).mono (Nat.le_refl _) hsz
  · by_cases ej : j = n
    · subst ej
      rw [hnew, hold k (by omega)]
      have a1 := hr.range h1
      have a2 := (hhi k (by omega)).range h2
      omega
    · rw [hold j (by omega)]
      by_cases ek : k = n
      · subst ek
        rw [hnew]
        have a1 := hr.range h2
        have a2 := (hhi j (by omega)).range h1
        omega
      · rw [hold k (by omega)]
        exact h.diff j k (by omega) (by omega) hjk h1 h2
theorem ownP (h : PRow lo w v rvs l l.length) : OwnP 50 lo w.heap.size w v rvs l := by
  rcases h.own.2 with ⟨h1, h2⟩ | ⟨g, cap, cur, h1, hb, hg, hnc, hm, hs, ht⟩
  · subst h1
    exact ⟨none, 0, by rw [h2], by omega, by omega, h.len, .inl (by omega), h.row, h.diff⟩
  · subst h1
    refine ⟨_, cap, rfl, hnc, by simpa [maxLen] using hm, h.len, .inr ⟨g, 0, _, rfl, hb, (Array.getElem?_eq_some_iff.1 hg).1, hg, fun i hi => ?_⟩, h.row, h.diff⟩
    have h3 := pcells_at (rvs := rvs) (l := l) hi
    rw [← ht, List.getElem?_take, if_pos hi] at h3
    rw [Nat.zero_add]; simpa using h3
end PRow

set_option maxHeartbeats 1600000 in
theorem swOwn_c (v : Value) (l : List Pe) (w : World) (h : Pes w v l) (hl : l.length ≤ 1048576) (hv : ∀ k, k < l.length → (peAt l k).vals.length ≤ 1048576) (hne : ∀ k, k < l.length → (peAt l k).vals ≠ []) :
    Calls Try.prog 102 #[v] w fun e w' => ∃ v' rvs, e = .returned v' ∧ OwnP 50 w.heap.size w'.heap.size w' v' rvs l ∧ Ext w w' := by
  obtain ⟨ao, cap, rfl, h1, h2, h3⟩ := h
  have G := Lib.hid h3; clear h3
  have HV := Lib.hid hv; clear hv
  have HNE := Lib.hid hne; clear hne
  go_enter Try.func102, Try.ntmps102
  go_wp2
  go_loopw [3, 8] (fun u i wr => ∃ (k : Nat) (rvs : List Value), k ≤ l.length ∧ i = .int .i64 k ∧ PRow w.heap.size wr u rvs l k ∧ Ext w wr) (fun _ i _ => l.length - (intOf i).toNat)
  case atStart => exact ⟨0, [], Nat.zero_le _, rfl, PRow.nil, Ext.refl w⟩
  case round =>
    obtain ⟨k, rvs, hk, rfl, hr, hx⟩ := hrel
    obtain ⟨wo, rfl⟩ : ∃ wo : World, wo = wr := ⟨_, rfl⟩
    have HR := Lib.hid hr
    obtain ⟨au, cu, rfl⟩ := hr.form
    clear hr
    by_cases hlt : k < l.length
    · obtain ⟨b, o, ar, cr, rfl, hc0, hc1, hc2, r1, r2, r3⟩ := (G.out.ext hx).at_ hlt
      have R3 := Lib.hid r3; clear r3
      have ub := (Ext.refl wo).alloc (.cells #[.int .i64 (peAt l k).area, .int .i64 (peAt l k).house, .slice ar (peAt l k).vals.length cr] 50)
      go_wp2_with fail
      refine (rOwn_c _ (peAt l k) _ (PeR.ext ⟨_, rfl, ar, cr, rfl, r1, r2, R3.out⟩ ub) (HNE.out k hlt) (HV.out k hlt)).mono ?_
      rintro e w1 ⟨rv, rfl, o1, u1⟩
      replace o1 := o1.mono (lo' := wo.heap.size) ub.size (Nat.le_refl _)
      replace u1 := ub.trans u1
      clear ub
      have HO := Lib.hid o1
      obtain ⟨a3, c3, rfl, _, _, q3⟩ := o1
      clear q3
      have us := (Ext.refl w1).alloc (.cells #[.int .i64 (peAt l k).area, .int .i64 (peAt l k).house, .slice a3 (peAt l k).vals.length c3] 50)
      have HR1 := Lib.hid ((HR.out.ext u1).ext us)
      have hsz := hx.size
      have hsz1 := u1.size
      go_wp2_with (at_builtin; go_loud (refine appN _ rfl _ _ 31 50 rfl (.agg #[.int .i64 0, .int .i64 0, .slice none 0 0]) 3 40 Try.underlying31 info_record rfl (by decide) w.heap.size _ k _ rfl HR1.out.own w1.heap.size 1 50 [.int .i64 (peAt l k).area, .int .i64 (peAt l k).house, .slice a3 (peAt l k).vals.length c3] rfl (Box.new _ _ _ rfl) rfl (by simp [Value.oneCell']) (by omega) (by omega) (by simp; omega) ?_))
      intro g cp w3 hown3 hgrow hat hlt3
      have hx3 := HR1.out.grew ((hx.trans u1).trans us) (Nat.le_refl _) hgrow
      have hp := HR1.out.push (hi := wo.heap.size) hsz ((HO.out.ext us).mono (Nat.le_refl _) us.size) (fun j hj => (((HR.out.row j hj).ext u1).ext us)) hgrow hown3
      have HP := Lib.hid hp; clear hp hown3
      have HX3 := Lib.hid hx3; clear hx3
      clear hgrow
      go_wp2
      go_roundw
      case rel => exact ⟨k + 1, _, by omega, by go_num, HP.out, HX3.out⟩
      case measure => simp [intOf]; omega
    · have hkl : k = l.length := by omega
      go_wp2
      go_ret
      subst hkl
      exact ⟨_, rvs, rfl, HR.out.ownP, hx⟩
end Go.Proofs.Ytkkoidoinbiikaa
