/- Grids that a call builds by append of fresh rows; copies of matrices. -/
import Derived.Test.YtodnkahnbidgaaaApp
import Derived.Test.YtodnkahnbidgaaaBase
import Derived.Test.YtodnkahnbidgaaaEqual
namespace Go.Proofs.Ytodnkahnbidgaaa
open Go.RowKit

/-- a slice of rows in a block of the call's own, each row in a block of its own below hi -/
structure GRow (lo hi : Nat) (w : World) (v : Value) (rvs : List Value) (xss : List (List Int)) : Prop where
  own : w.ownsRow lo 36 1 v xss.length rvs
  row : ∀ k, k < xss.length → Own lo hi w (rvAt rvs k) (rowAt xss k)
  diff : ∀ j k, j < xss.length → k < xss.length → j ≠ k → rowAt xss j ≠ [] → rowAt xss k ≠ [] → blk (rvAt rvs j) ≠ blk (rvAt rvs k)
namespace GRow
variable {lo hi hi' : Nat} {w w' : World} {v : Value} {rvs : List Value} {xss : List (List Int)}
theorem nil : GRow lo hi w (.slice none 0 0) [] [] := ⟨World.ownsRow_nil _ _ _ _, fun k hk => by simp at hk, fun j k hj => by simp at hj⟩
theorem len (h : GRow lo hi w v rvs xss) : rvs.length = xss.length := by have := h.own.1; simpa using this
theorem ext (h : GRow lo hi w v rvs xss) (u : Ext w w') : GRow lo hi w' v rvs xss :=
  ⟨World.ownsRow.kept h.own (w' := w') (row := none) ⟨u.os, u.tape, u.output, u.size, fun k hk _ => u.block hk⟩ (by cases v.ownBlock <;> simp), fun k hk => (h.row k hk).ext u, h.diff⟩
theorem mono (h : GRow lo hi w v rvs xss) (hh : hi ≤ hi') : GRow lo hi' w v rvs xss := ⟨h.own, fun k hk => (h.row k hk).mono (Nat.le_refl _) hh, h.diff⟩
theorem blk (h : GRow lo hi w v rvs xss) {b : Nat} (hb : v.ownBlock = some b) : lo ≤ b ∧ b < w.heap.size := World.ownsRow.lt h.own b hb
theorem ownG (h : GRow lo hi w v rvs xss) (hh : w.heap.size ≤ hi') (h2 : hi ≤ hi') : OwnG lo hi' w v rvs xss :=
  OwnG.of_ownsRow h.own rfl hh (fun k hk => (h.row k hk).mono (Nat.le_refl _) h2) h.diff
theorem grew {u : World} (h : GRow lo hi w v rvs xss) (hx : Ext u w) (hlo : u.heap.size ≤ lo) (hg : w.grownBy w' v.ownBlock) : Ext u w' :=
  hx.of_upd (Upd.of_grown hg) (fun b hb => by have := (h.blk hb).1; omega)
/-- a fresh row (numbered from hi on) is appended -/
theorem push {x v' : Value} {r : List Int} (h : GRow lo hi w v rvs xss) (hlo : lo ≤ hi) (hx : Own hi hi' w x r) (h2 : hi ≤ hi') (hg : w.grownBy w' v.ownBlock) (hv : w'.ownsRow lo 36 1 v' (xss.length + 1) (rvs ++ [x])) :
    GRow lo hi' w' v' (rvs ++ [x]) (xss ++ [r]) := by
  have hl := h.len
  have keep : ∀ {lo2 : Nat} (y : Value) (ys : List Int), Own lo2 hi' w y ys → Own lo2 hi' w' y ys := fun y ys ho =>
    ho.upd (Upd.of_grown hg) (fun hy e => ho.ne_ownsRow h.own hy e)
  have old : ∀ j, j < xss.length → rvAt (rvs ++ [x]) j = rvAt rvs j ∧ rowAt (xss ++ [r]) j = rowAt xss j := fun j hj =>
    ⟨rvAt_append_left (by omega), by simp [rowAt, List.getD, hj, List.getElem?_append_left]⟩
  have new : rvAt (rvs ++ [x]) xss.length = x ∧ rowAt (xss ++ [r]) xss.length = r := by
    refine ⟨?_, by simp [rowAt, List.getD]⟩
    have := @rvAt_append_len rvs x; rwa [hl] at this
  refine ⟨by simpa using hv, fun k hk => ?_, fun j k hj hk hjk h1 h2' => ?_⟩
  · simp at hk
    by_cases e : k = xss.length
    · subst e; rw [new.1, new.2]; exact (keep _ _ hx).mono hlo (Nat.le_refl _)
    · rw [(old k (by omega)).1, (old k (by omega)).2]; exact keep _ _ ((h.row k (by omega)).mono (Nat.le_refl _) h2)
  · simp at hj hk
    by_cases e1 : j = xss.length
    · subst e1
      rw [new.1, (old k (by omega)).1]
      rw [new.2] at h1
      rw [(old k (by omega)).2] at h2'
      have a1 := hx.range h1
      have a2 := (h.row k (by omega)).range h2'
      omega
    · rw [(old j (by omega)).1]
      rw [(old j (by omega)).2] at h1
      by_cases e2 : k = xss.length
      · subst e2
        rw [new.1]
        rw [new.2] at h2'
        have a1 := hx.range h2'
        have a2 := (h.row j (by omega)).range h1
        omega
      · rw [(old k (by omega)).1]
        rw [(old k (by omega)).2] at h2'
        exact h.diff j k (by omega) (by omega) hjk h1 h2'
end GRow

set_option maxHeartbeats 1600000 in
theorem copyMatrix_c (v : Value) (xss : List (List Int)) (w : World) (h : Grid w v xss) (hl : xss.length ≤ 1048576) (hr : ∀ k, k < xss.length → (rowAt xss k).length ≤ 1048576) (hne : ∀ k, k < xss.length → rowAt xss k ≠ []) :
    Calls Try.prog 43 #[v] w fun e w' => ∃ v' rvs, e = .returned v' ∧ OwnG w.heap.size w'.heap.size w' v' rvs xss ∧ Ext w w' := by
  obtain ⟨ao, cap, rfl, h1, h2, h3⟩ := h
  have G := Lib.hid h3; clear h3
  have HR := Lib.hid hr; clear hr
  have HNE := Lib.hid hne; clear hne
  have hmk := run_make_row' (P := Try.prog) 22 36 (.slice none 0 0) 24 Try.underlying22 info_ints rfl .i64 .i64 xss.length (by omega) (by omega)
  go_enter Try.func43, Try.ntmps43
  go_wp2
  go_loopw [11] (fun i wr => ∃ (k : Nat) (rvs : List Value), k ≤ xss.length ∧ i = .int .i64 k ∧ rvs.length = k ∧ wr.rowIs w.heap.size 36 xss.length (fun j => if j < k then rvAt rvs j else .slice none 0 0) ∧
    (∀ j, j < k → Own w.heap.size wr.heap.size wr (rvAt rvs j) (rowAt xss j)) ∧
    (∀ i j, i < k → j < k → i ≠ j → rowAt xss i ≠ [] → rowAt xss j ≠ [] → blk (rvAt rvs i) ≠ blk (rvAt rvs j)) ∧ Ext w wr) (fun i _ => xss.length - (intOf i).toNat)
  case atStart => exact ⟨0, [], Nat.zero_le _, rfl, rfl, (World.rowIs_made _ _ _ _).congr (fun j _ => by simp), fun j hj => by omega, fun i j hi => by omega, (Ext.refl _).alloc _⟩
  case round =>
    obtain ⟨k, rvs, hk, rfl, hn, hrow, hown, hd, hx⟩ := hrel
    have HW := Lib.hid hrow
    have HO := Lib.hid hown; clear hown
    have HD := Lib.hid hd; clear hd
    have HN := Lib.hid hn; clear hn
    by_cases hlt : k < xss.length
    · obtain ⟨b, o, ar, cr, rfl, hc, r1, r2, r3⟩ := (G.out.ext hx).at_ hlt
      have R3 := Lib.hid r3; clear r3
      clear hrow
      go_wp2_with fail
      refine (cloneI_c _ (rowAt xss k) wr ⟨ar, cr, rfl, r1, r2, R3.out⟩ (HNE.out k hlt) (HR.out k hlt)).mono ?_
      rintro e w1 ⟨v', rfl, hown1, hx1⟩
      have HW1 := Lib.hid (rowIs_ext HW.out hx1)
      have hfr := HW1.out.frozen k
      have hcell := HW1.out.cell hlt
      have HO1 := Lib.hid hown1
      obtain ⟨ao', cap', rfl, _, _, _⟩ := hown1
      go_wp2
      go_roundw
      case rel =>
        have hsz : w1.heap.size = (w1.setCell ⟨w.heap.size, k, none⟩ (.slice ao' (rowAt xss k).length cap')).heap.size := by simp [World.setCell]
        have hu : Upd (fun b => b = w.heap.size) w1 (w1.setCell ⟨w.heap.size, k, none⟩ (.slice ao' (rowAt xss k).length cap')) := (Upd.refl _).setCell _ (fun _ => rfl)
        have hold : ∀ j, j < k → rvAt (rvs ++ [.slice ao' (rowAt xss k).length cap']) j = rvAt rvs j := fun j hj => rvAt_append_left (by rw [HN.out]; exact hj)
        have hnew : rvAt (rvs ++ [.slice ao' (rowAt xss k).length cap']) k = .slice ao' (rowAt xss k).length cap' := by
          have := @rvAt_append_len rvs (.slice ao' (rowAt xss k).length cap'); rwa [HN.out] at this
        refine ⟨k + 1, rvs ++ [.slice ao' (rowAt xss k).length cap'], by omega, by go_num, by simp [HN.out], (HW1.out.set k _).congr (fun j hj => ?_), fun j hj => ?_, fun i j hi hj hij hri hrj => ?_, (hx.trans hx1).setCell _ (Nat.le_refl _)⟩
        · by_cases e : j = k
          · subst e; simp [hnew]
          · by_cases e2 : j < k
            · have : j < k + 1 := by omega
              simp [e, e2, this, hold j e2]
            · have : ¬ j < k + 1 := by omega
              simp [e, e2, this]
        · rw [← hsz]
          by_cases e : j = k
          · subst e; rw [hnew]
            exact (HO1.out.upd hu (fun hne => HO1.out.ne_row HW1.out hne)).mono hx.size (Nat.le_refl _)
          · have hj' : j < k := by omega
            rw [hold j hj']
            have h1 := (HO.out j hj').ext hx1
            exact (h1.upd hu (fun hne => h1.ne_row HW1.out hne)).mono (Nat.le_refl _) hx1.size
        · by_cases ei : i = k
          · subst ei
            have hj' : j < i := by omega
            rw [hnew, hold j hj']
            have a1 := HO1.out.range hri
            have a2 := (HO.out j hj').range hrj
            omega
          · have hi' : i < k := by omega
            rw [hold i hi']
            by_cases ej : j = k
            · subst ej
              rw [hnew]
              have a1 := HO1.out.range hrj
              have a2 := (HO.out i hi').range hri
              omega
            · have hj' : j < k := by omega
              rw [hold j hj']; exact HD.out i j hi' hj' hij hri hrj
      case measure => simp [intOf]; omega
    · clear hrow
      have hkl : k = xss.length := by omega
      have HK := Lib.hid hkl; clear hkl
      go_wp2
      go_ret
      refine ⟨_, rvs, rfl, ⟨some ⟨w.heap.size, 0, none⟩, xss.length, rfl, Nat.le_refl _, by omega, HN.out.trans HK.out, ?_, fun j hj => HO.out j (by rw [HK.out]; exact hj), fun i j hi hj => HD.out i j (by rw [HK.out]; exact hi) (by rw [HK.out]; exact hj)⟩, hx⟩
      obtain ⟨c, hb, hs, hc⟩ := HW.out
      have hsz := HW.out.lt
      exact .inr ⟨w.heap.size, 0, c, rfl, Nat.le_refl _, hsz, hb, fun j hj => by rw [Nat.zero_add, hc j hj]; show some (if j < k then rvAt rvs j else Value.slice none 0 0) = _; rw [if_pos (by rw [HK.out]; exact hj)]⟩

set_option maxHeartbeats 800000 in
theorem l1Own_c (v : Value) (xs : List Int) (w : World) (h : Ints w v xs) (hne : xs ≠ []) (hl : xs.length ≤ 1048576) :
    Calls Try.prog 82 #[v] w (RetInts (fun v' => v') w xs) := by
  obtain ⟨ao, cap, rfl, h1, h2, h3⟩ := h
  have h0 : 0 < xs.length := List.length_pos_iff.2 hne
  obtain ⟨b, o, rfl, hc0⟩ := h3 0 h0
  have HN : Hid (∀ j u, (xs.map (Value.int .i64))[j]? = some u → w.cell? ((⟨b, o, none⟩ : Addr).add j) = some u) := Lib.hid (fun j u hj => by
    have hjl : j < xs.length := by
      have := (List.getElem?_eq_some_iff.1 hj).1; simpa using this
    obtain ⟨b', o', e, hc⟩ := h3 j hjl
    simp only [Option.some.injEq, Addr.mk.injEq, and_true] at e
    obtain ⟨rfl, rfl⟩ := e
    have hu : u = .int .i64 (ix xs j) := by
      have h5 : (xs.map (Value.int .i64))[j]? = some (.int .i64 (ix xs j)) := by simp [ix, List.getD, hjl]
      rw [h5] at hj; exact (Option.some.inj hj).symm
    subst hu
    by_cases ej : j = 0
    · subst ej; simpa [Addr.add] using hc
    · simpa [Addr.add, ej] using hc)
  clear h3
  obtain ⟨i0, hi0, hz0, hz1, hz2⟩ := info_parts info_int
  have hmax : xs.length ≤ maxLen := by simp [maxLen]; omega
  have he : Ext w (w.alloc (.cells #[] 3)) := (Ext.refl w).alloc _
  go_enter Try.func82, Try.ntmps82
  go_wp2_with (at_builtin; go_loud (refine wpList_append_lies _ rfl _ _ _ rfl w.heap.size 3 i0 _ 1 8 Try.underlying36 hi0 hz0 hz1 hz2 rfl (by omega) (.slice (some ⟨w.heap.size, 0, none⟩) 0 0) 0 [] rfl (And.intro rfl (.inr ⟨w.heap.size, 0, #[], rfl, Nat.le_refl _, Go.Deep.blk_alloc_new _ _, Nat.le_refl _, by simp [maxLen], rfl, rfl⟩)) ⟨b, o, none⟩ xs.length cap (xs.map (Value.int .i64)) rfl (by simp) (fun j u hj => Ext.cell he (HN.out j u hj)) (by intro u hu; obtain ⟨x, _, rfl⟩ := List.mem_map.1 hu; rfl) h0 (by omega) (by omega) (by simp) (w.heap.size + 1) (by simp) ?_))
  intro g cp w3 hown3 hgrow hat hlt3
  have hx := (he.of_upd (Upd.of_grown hgrow) (fun k hk => by simp [Value.ownBlock] at hk; omega))
  have HX := Lib.hid hx; clear hx hgrow
  have hown := Own.of_ownsRow (hi := w3.heap.size) (xs := xs) (by simpa using hown3) (Nat.le_refl _)
  have HOWN := Lib.hid hown; clear hown hown3
  go_wp2
  go_ret
  exact ⟨_, rfl, by simpa using HOWN.out, HX.out⟩

set_option maxHeartbeats 1600000 in
theorem tOwn_c (v : Value) (xss : List (List Int)) (w : World) (h : Grid w v xss) (hl : xss.length ≤ 1048576) (hr : ∀ k, k < xss.length → (rowAt xss k).length ≤ 1048576) (hne : ∀ k, k < xss.length → rowAt xss k ≠ []) :
    Calls Try.prog 37 #[v] w (RetGrid (fun v' => v') w xss) := by
  obtain ⟨ao, cap, rfl, h1, h2, h3⟩ := h
  have G := Lib.hid h3; clear h3
  have HR := Lib.hid hr; clear hr
  have HNE := Lib.hid hne; clear hne
  go_enter Try.func37, Try.ntmps37
  go_wp2
  go_loopw [3, 8] (fun r i wr => ∃ (k : Nat) (rvs : List Value), k ≤ xss.length ∧ i = .int .i64 k ∧ GRow w.heap.size wr.heap.size wr r rvs (xss.take k) ∧ Ext w wr) (fun _ i _ => xss.length - (intOf i).toNat)
  case atStart => exact ⟨0, [], Nat.zero_le _, rfl, GRow.nil, Ext.refl w⟩
  case round =>
    obtain ⟨k, rvs, hk, rfl, hg, hx⟩ := hrel
    obtain ⟨wo, rfl⟩ : ∃ wo : World, wo = wr := ⟨_, rfl⟩
    have HG := Lib.hid hg; clear hg
    by_cases hlt : k < xss.length
    · obtain ⟨b, o, ar, cr, rfl, hc, r1, r2, r3⟩ := (G.out.ext hx).at_ hlt
      have R3 := Lib.hid r3; clear r3
      have hs := hx.size
      go_wp2_with fail
      refine (l1Own_c _ (rowAt xss k) wo ⟨ar, cr, rfl, r1, r2, R3.out⟩ (HNE.out k hlt) (HR.out k hlt)).mono ?_
      rintro e w1 ⟨v', rfl, o1, u1⟩
      have O1 := Lib.hid o1
      obtain ⟨ao', cap', rfl, _, _, _⟩ := o1
      have htk : (xss.take k).length = k := by simp; omega
      have HTK := Lib.hid htk; clear htk
      have g1 := HG.out.ext u1
      have G1 := Lib.hid g1; clear g1
      have hs1 := u1.size
      have hown := (G1.out.ext ((Ext.refl w1).alloc (.cells #[.slice ao' (rowAt xss k).length cap'] 36))).own
      rw [HTK.out] at hown
      have HOWN := Lib.hid hown; clear hown
      go_wp2_with (at_builtin; go_loud (refine app1 _ rfl _ _ 22 36 rfl (.slice none 0 0) 24 Try.underlying22 info_ints rfl w.heap.size _ k rvs rfl HOWN.out w1.heap.size 1 36 (.slice ao' (rowAt xss k).length cap') rfl (Box.new _ _ _ rfl) rfl (by omega) (by omega) (by simp; omega) ?_))
      intro g cp w3 hown3 hgrow hat hlt3
      have e1 : Ext w1 (w1.alloc (.cells #[.slice ao' (rowAt xss k).length cap'] 36)) := (Ext.refl w1).alloc _
      have gn := (G1.out.ext e1).push (hi' := w3.heap.size) (x := .slice ao' (rowAt xss k).length cap') (r := rowAt xss k) hx.size
        ((O1.out.ext e1).mono (Nat.le_refl _) (by have := hgrow.size; simp at this; omega)) (by have := hgrow.size; simp at this; omega) hgrow (by rw [HTK.out]; exact hown3)
      have hx3 := (G1.out.ext e1).grew ((hx.trans u1).trans e1) (Nat.le_refl _) hgrow
      have GN := Lib.hid gn; clear gn
      have HX3 := Lib.hid hx3; clear hx3
      clear hgrow hown3
      go_wp2
      go_roundw
      case rel => exact ⟨k + 1, _, by omega, by go_num, by rw [take_succ_row hlt]; exact GN.out, HX3.out⟩
      case measure => simp [intOf]; omega
    · have hkk : xss.take k = xss := List.take_of_length_le (by omega)
      rw [hkk] at HG
      obtain ⟨_, cf, hf⟩ : ∃ (a : Option Addr) (c : Nat), True := ⟨none, 0, trivial⟩
      go_wp2
      go_ret
      exact ⟨_, rvs, rfl, HG.out.ownG (Nat.le_refl _) (Nat.le_refl _), hx⟩
end Go.Proofs.Ytodnkahnbidgaaa
