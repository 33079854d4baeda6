/- Grids made element by element of a grid; ThresholdCells, the spec's. -/
import Derived.Test.YtmffhipfodlomaaGrid
import Derived.Test.YtmffhipfodlomaaGrow
namespace Go.Proofs.Ytmffhipfodlomaa
open Go.RowKit

def rowF (f : Nat → Nat → Int → Int) (xss : List (List Int)) (i : Nat) : List Int := (List.range (rowAt xss i).length).map fun j => f i j (ix (rowAt xss i) j)
def mapG (f : Nat → Nat → Int → Int) (xss : List (List Int)) : List (List Int) := (List.range xss.length).map (rowF f xss)
theorem rowF_length (f : Nat → Nat → Int → Int) (xss : List (List Int)) (i : Nat) : (rowF f xss i).length = (rowAt xss i).length := by simp [rowF]
theorem mapG_length (f : Nat → Nat → Int → Int) (xss : List (List Int)) : (mapG f xss).length = xss.length := by simp [mapG]
theorem ix_rowF {f : Nat → Nat → Int → Int} {xss : List (List Int)} {i j : Nat} (h : j < (rowAt xss i).length) : ix (rowF f xss i) j = f i j (ix (rowAt xss i) j) := by simp [ix, rowF, List.getD, h]
theorem rowAt_mapG {f : Nat → Nat → Int → Int} {xss : List (List Int)} {i : Nat} (h : i < xss.length) : rowAt (mapG f xss) i = rowF f xss i := by simp [rowAt, mapG, List.getD, h]
theorem rowF_take_succ {f : Nat → Nat → Int → Int} {xss : List (List Int)} {i j : Nat} (h : j < (rowAt xss i).length) : (rowF f xss i).take (j + 1) = (rowF f xss i).take j ++ [f i j (ix (rowAt xss i) j)] := by
  rw [take_succ_ix (by rw [rowF_length]; exact h), ix_rowF h]
theorem mapG_take_succ {f : Nat → Nat → Int → Int} {xss : List (List Int)} {i : Nat} (h : i < xss.length) : (mapG f xss).take (i + 1) = (mapG f xss).take i ++ [rowF f xss i] := by
  rw [take_succ_row (by rw [mapG_length]; exact h), rowAt_mapG h]

/-- positive and less than t -/
def thrEl (t : Int) (n : Int) : Int := if 0 < n ∧ n < t then 1 else 0
def thr (t : Int) (xss : List (List Int)) : List (List Int) := mapG (fun _ _ n => thrEl t n) xss
def thrB (t : Int) (xss : List (List Int)) : Bool := gridB 8 1000 xss && (decide (0 ≤ t) && decide (t ≤ 1001))
def thrV (t : Int) (xss : List (List Int)) : List (List Int) := if thrB t xss = true then thr t xss else []

set_option maxHeartbeats 3200000 in
theorem specThr_c (v : Value) (xss : List (List Int)) (t : Int) (w : World) (h : Grid w v xss) :
    Calls Try.prog 32 #[v, .int .i64 t] w (RetGrid (fun v' => .tuple #[v', .bool (thrB t xss)]) w (thrV t xss)) := by
  have H := Lib.hid h
  cases hq : gridB 8 1000 xss
  · have hB : thrB t xss = false := by simp [thrB, hq]
    have hV : thrV t xss = [] := by simp [thrV, hB]
    rw [hV, hB]; clear hV hB
    have HQ := Lib.hid hq; clear hq
    clear h
    go_enter Try.func32, Try.ntmps32
    go_wp2_with fail
    refine (qTable_b false _ xss _ HQ.out H.out).mono ?_
    rintro e w' ⟨rfl, rfl⟩
    go_wp2
    go_ret2
    exact ⟨_, [], rfl, OwnG.nil, Ext.refl _⟩
  cases ht : (decide (0 ≤ t) && decide (t ≤ 1001))
  · have hB : thrB t xss = false := by simp only [thrB, ht]; simp
    have hV : thrV t xss = [] := by simp [thrV, hB]
    rw [hV, hB]; clear hV hB
    have HQ := Lib.hid hq; clear hq
    have HT := Lib.hid ht; clear ht
    clear h
    go_enter Try.func32, Try.ntmps32
    go_wp2_with fail
    refine (qTable_b true _ xss _ HQ.out H.out).mono ?_
    rintro e w' ⟨rfl, rfl⟩
    go_wp2_with fail
    refine (l1In_b false t 0 1001 _ HT.out).mono ?_
    rintro e w' ⟨rfl, rfl⟩
    go_wp2
    go_ret2
    exact ⟨_, [], rfl, OwnG.nil, Ext.refl _⟩
  have hB : thrB t xss = true := by simp only [thrB, hq, ht]; rfl
  have hV : thrV t xss = thr t xss := by simp [thrV, hB]
  rw [hV, hB]; clear hV hB
  have gq := gridB_true.1 hq
  have hl8 : xss.length ≤ 8 := gq.2.1
  have HG8 : Hid (∀ k, k < xss.length → (rowAt xss k).length ≤ 8) := Lib.hid (fun k hk => by have := (gq.2.2.2.2 k hk).1; omega)
  clear gq
  have HQ := Lib.hid hq; clear hq
  have HT := Lib.hid ht; clear ht
  obtain ⟨ao, cap, rfl, h1, h2, h3⟩ := h
  have G := Lib.hid h3; clear h3
  go_enter Try.func32, Try.ntmps32
  go_wp2_with fail
  refine (qTable_b true _ xss _ HQ.out H.out).mono ?_
  rintro e w' ⟨rfl, rfl⟩
  go_wp2_with fail
  refine (l1In_b true t 0 1001 _ HT.out).mono ?_
  rintro e w ⟨rfl, rfl⟩
  go_wp2
  go_loopw [6, 22] (fun r i wr => ∃ (k : Nat) (rvs : List Value), k ≤ xss.length ∧ i = .int .i64 k ∧ GRow w.heap.size wr.heap.size wr r rvs ((thr t xss).take k) ∧ Ext w wr) (fun _ i _ => xss.length - (intOf i).toNat)
  case atStart => exact ⟨0, [], Nat.zero_le _, rfl, GRow.nil, Ext.refl w⟩
  case round =>
    obtain ⟨k, rvs, hk, rfl, hg, hx⟩ := hrel
    obtain ⟨wo, rfl⟩ : ∃ wo : World, wo = wr := ⟨_, rfl⟩
    have HG := Lib.hid hg; clear hg
    by_cases hlt : k < xss.length
    · obtain ⟨b, o, ar, cr, rfl, hc, r1, r2, r3⟩ := (G.out.ext hx).at_ hlt
      have R3 := Lib.hid r3; clear r3
      have hs := hx.size
      have hr8 := HG8.out k hlt
      go_wp2
      go_loopw [9, 28] (fun r i wr => ∃ l : Nat, l ≤ (rowAt xss k).length ∧ i = .int .i64 l ∧ IRow wo.heap.size wr r ((rowF (fun _ _ n => thrEl t n) xss k).take l) ∧ Ext wo wr) (fun _ i _ => (rowAt xss k).length - (intOf i).toNat)
      case atStart => exact ⟨0, Nat.zero_le _, rfl, by simpa using IRow.nil, Ext.refl wo⟩
      case round =>
        obtain ⟨l, hl, rfl, hp, hxi⟩ := hrel
        obtain ⟨wi, rfl⟩ : ∃ wi : World, wi = wr := ⟨_, rfl⟩
        have hsi := hxi.size
        have HP := Lib.hid hp
        by_cases hl2 : l < (rowAt xss k).length
        · obtain ⟨bx, ox, rfl, hcx⟩ := R3.out l hl2
          have ecx := Ext.cell hxi hcx
          have htl : ((rowF (fun _ _ n => thrEl t n) xss k).take l).length = l := by simp [rowF_length]; omega
          have hown := hp
          unfold IRow at hown
          rw [htl] at hown
          have HOWN := Lib.hid hown; clear hown hp
          have HTL := Lib.hid htl; clear htl
          by_cases hin : 0 < ix (rowAt xss k) l ∧ ix (rowAt xss k) l < t
          · have HEL : Hid (thrEl t (ix (rowAt xss k) l) = 1) := Lib.hid (by simp [thrEl, hin])
            obtain ⟨hi1, hi2⟩ := hin
            go_wp2_with (at_builtin; go_loud (refine app1 _ rfl _ _ 22 3 rfl (.int .i64 0) 8 Try.underlying22 info_int rfl wo.heap.size _ l _ rfl (HOWN.out.kept (row := none) ⟨((Ext.refl _).alloc _).os, ((Ext.refl _).alloc _).tape, ((Ext.refl _).alloc _).output, ((Ext.refl _).alloc _).size, fun k hk _ => ((Ext.refl _).alloc _).block hk⟩ (by cases (Value.ownBlock _) <;> simp)) wi.heap.size 1 3 (.int .i64 1) rfl (Box.new _ _ _ rfl) rfl (by omega) (by omega) (by simp; omega) ?_))
            intro g cp w3 hown3 hgrow hat hlt3
            have h3 := HP.out.ext ((Ext.refl _).alloc (.cells #[.int .i64 1] 3))
            have hx3 := h3.grew (hxi.alloc _) (by omega) hgrow
            have HO3 := Lib.hid hown3; clear hown3
            have HX3 := Lib.hid hx3; clear hx3
            clear hgrow
            go_wp2
            go_roundw
            case rel => exact ⟨l + 1, by omega, by go_num, by
              rw [rowF_take_succ hl2, HEL.out]
              exact IRow.push (by rw [HTL.out, List.map_take]; exact HO3.out), HX3.out⟩
            case measure => simp [intOf]; omega
          · have HEL : Hid (thrEl t (ix (rowAt xss k) l) = 0) := Lib.hid (by simp only [thrEl, hin]; rfl)
            have hd : (decide (0 < ix (rowAt xss k) l) && decide (ix (rowAt xss k) l < t)) = false := by
              rw [Bool.and_eq_false_iff]; simp only [decide_eq_false_iff_not]; omega
            by_cases hp0 : 0 < ix (rowAt xss k) l
            · have hp1 : ¬ (ix (rowAt xss k) l < t) := fun hh => hin ⟨hp0, hh⟩
              clear hin hd
              go_wp2_with (at_builtin; go_loud (refine app1 _ rfl _ _ 22 3 rfl (.int .i64 0) 8 Try.underlying22 info_int rfl wo.heap.size _ l _ rfl (HOWN.out.kept (row := none) ⟨((Ext.refl _).alloc _).os, ((Ext.refl _).alloc _).tape, ((Ext.refl _).alloc _).output, ((Ext.refl _).alloc _).size, fun k hk _ => ((Ext.refl _).alloc _).block hk⟩ (by cases (Value.ownBlock _) <;> simp)) wi.heap.size 1 3 (.int .i64 0) rfl (Box.new _ _ _ rfl) rfl (by omega) (by omega) (by simp; omega) ?_))
              intro g cp w3 hown3 hgrow hat hlt3
              have h3 := HP.out.ext ((Ext.refl _).alloc (.cells #[.int .i64 0] 3))
              have hx3 := h3.grew (hxi.alloc _) (by omega) hgrow
              have HO3 := Lib.hid hown3; clear hown3
              have HX3 := Lib.hid hx3; clear hx3
              clear hgrow
              go_wp2
              go_roundw
              case rel => exact ⟨l + 1, by omega, by go_num, by
                rw [rowF_take_succ hl2, HEL.out]
                exact IRow.push (by rw [HTL.out, List.map_take]; exact HO3.out), HX3.out⟩
              case measure => simp [intOf]; omega
            · clear hin hd
              go_wp2_with (at_builtin; go_loud (refine app1 _ rfl _ _ 22 3 rfl (.int .i64 0) 8 Try.underlying22 info_int rfl wo.heap.size _ l _ rfl (HOWN.out.kept (row := none) ⟨((Ext.refl _).alloc _).os, ((Ext.refl _).alloc _).tape, ((Ext.refl _).alloc _).output, ((Ext.refl _).alloc _).size, fun k hk _ => ((Ext.refl _).alloc _).block hk⟩ (by cases (Value.ownBlock _) <;> simp)) wi.heap.size 1 3 (.int .i64 0) rfl (Box.new _ _ _ rfl) rfl (by omega) (by omega) (by simp; omega) ?_))
              intro g cp w3 hown3 hgrow hat hlt3
              have h3 := HP.out.ext ((Ext.refl _).alloc (.cells #[.int .i64 0] 3))
              have hx3 := h3.grew (hxi.alloc _) (by omega) hgrow
              have HO3 := Lib.hid hown3; clear hown3
              have HX3 := Lib.hid hx3; clear hx3
              clear hgrow
              go_wp2
              go_roundw
              case rel => exact ⟨l + 1, by omega, by go_num, by
                rw [rowF_take_succ hl2, HEL.out]
                exact IRow.push (by rw [HTL.out, List.map_take]; exact HO3.out), HX3.out⟩
              case measure => simp [intOf]; omega
        · have hfull : (rowF (fun _ _ n => thrEl t n) xss k).take l = rowF (fun _ _ n => thrEl t n) xss k := List.take_of_length_le (by rw [rowF_length]; omega)
          rw [hfull] at hp
          clear HP hfull
          have O1 := Lib.hid (hp.own (Nat.le_refl _))
          obtain ⟨ap, cp0, rfl⟩ := hp.form
          clear hp
          have htk : ((thr t xss).take k).length = k := by simp [thr, mapG_length]; omega
          have HTK := Lib.hid htk; clear htk
          have G1 := Lib.hid (HG.out.ext hxi)
          have hown := (G1.out.ext ((Ext.refl wi).alloc (.cells #[.slice ap (rowF (fun _ _ n => thrEl t n) xss k).length cp0] 22))).own
          rw [HTK.out] at hown
          have HOWN := Lib.hid hown; clear hown
          go_wp2_with (at_builtin; go_loud (refine app1 _ rfl _ _ 23 22 rfl (.slice none 0 0) 24 Try.underlying23 info_ints rfl w.heap.size _ k rvs rfl HOWN.out wi.heap.size 1 22 (.slice ap (rowF (fun _ _ n => thrEl t n) xss k).length cp0) rfl (Box.new _ _ _ rfl) rfl (by omega) (by omega) (by simp; omega) ?_))
          intro g cp w3 hown3 hgrow hat hlt3
          have e1 : Ext wi (wi.alloc (.cells #[.slice ap (rowF (fun _ _ n => thrEl t n) xss k).length cp0] 22)) := (Ext.refl wi).alloc _
          have gn := (G1.out.ext e1).push (hi' := w3.heap.size) (r := rowF (fun _ _ n => thrEl t n) xss k) hx.size
            ((O1.out.ext e1).mono (Nat.le_refl _) (by have := hgrow.size; simp at this; omega)) (by have := hgrow.size; simp at this; omega) hgrow (by rw [HTK.out]; exact hown3)
          have hx3 := (G1.out.ext e1).grew ((hx.trans hxi).trans e1) (Nat.le_refl _) hgrow
          have GN := Lib.hid gn; clear gn
          have HX3 := Lib.hid hx3; clear hx3
          clear hgrow hown3
          go_wp2
          go_roundw
          case rel => exact ⟨k + 1, _, by omega, by go_num, by unfold thr; rw [mapG_take_succ hlt]; exact GN.out, HX3.out⟩
          case measure => simp [intOf]; omega
    · have hkk : (thr t xss).take k = thr t xss := List.take_of_length_le (by unfold thr; rw [mapG_length]; omega)
      rw [hkk] at HG
      go_wp2
      go_ret2
      exact ⟨_, rvs, rfl, HG.out.ownG (Nat.le_refl _) (Nat.le_refl _), hx⟩
end Go.Proofs.Ytmffhipfodlomaa
