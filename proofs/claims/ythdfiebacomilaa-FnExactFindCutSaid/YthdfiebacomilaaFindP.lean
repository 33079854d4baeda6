/- The first cut of a network, plain. -/
import Derived.Test.YthdfiebacomilaaBits
import Derived.Test.YthdfiebacomilaaAny
namespace Go.Proofs.Ythdfiebacomilaa
open Go.RowKit
open Fm

def bitRows (T : Tr) (s : Nat) : List Int := bitsI s T.rows.length
def cutAt (T : Tr) (s : Nat) : Bool := cutB T (bitRows T s) (colsFor T (bitRows T s))
def firstCut (T : Tr) : Option Nat := (List.range (2 ^ T.rows.length)).find? (cutAt T)
open Classical in
noncomputable def findC (T : Tr) : Option Nat := if trB T = true ∧ T.rows.sum = T.cols.sum then firstCut T else none
def fcRows (T : Tr) : Option Nat → List Int
  | some s => bitRows T s
  | none => []
def fcCols (T : Tr) : Option Nat → List Int
  | some s => colsFor T (bitRows T s)
  | none => []
theorem firstCut_some {T : Tr} {k : Nat} (h : ∀ s, s < k → cutAt T s = false) (hk : k < 2 ^ T.rows.length) (hc : cutAt T k = true) : firstCut T = some k := by
  unfold firstCut
  rw [List.find?_eq_some_iff_getElem]
  refine ⟨hc, k, by simpa using hk, by simp, fun j hj => ?_⟩
  rw [List.getElem_range, h j hj]; rfl
theorem firstCut_none {T : Tr} (h : ∀ s, s < 2 ^ T.rows.length → cutAt T s = false) : firstCut T = none := by
  unfold firstCut
  rw [List.find?_eq_none]
  intro s hs
  rw [h s (by simpa using hs)]; simp
theorem findC_on {T : Tr} (h : trB T = true) (e : T.rows.sum = T.cols.sum) : findC T = firstCut T := by unfold findC; rw [if_pos ⟨h, e⟩]
theorem findC_off {T : Tr} (h : ¬ (trB T = true ∧ T.rows.sum = T.cols.sum)) : findC T = none := by unfold findC; rw [if_neg h]
theorem bits_rising (T : Tr) (s : Nat) : Rising (T.rows.length : Int) (bitRows T s) := picked_rising (Int.le_refl _)
theorem cols_rising (T : Tr) (l : List Int) : Rising (T.cols.length : Int) (colsFor T l) := picked_rising (Int.le_refl _)
theorem bits_small (T : Tr) (s : Nat) : (bitRows T s).length ≤ T.rows.length := picked_length _ _
theorem cols_small (T : Tr) (l : List Int) : (colsFor T l).length ≤ T.cols.length := picked_length _ _
theorem pickS_S {R l : List Int} (h : Rising (R.length : Int) l) : pickS R l = S R.length (fun i => if hasI l (i : Int) = true then ix R i else 0) := h.sum (ix R)
theorem cutB_flow {T : Tr} {x : Nat → Nat → Int} (hx : Flow (NetT T) x) {rows cols : List Int} (hr : Rising (T.rows.length : Int) rows) (hc : Rising (T.cols.length : Int) cols) : cutB T rows cols = false := by
  have h := hx.no_cut (fun i => hasI rows (i : Int)) (fun j => hasI cols (j : Int))
  unfold cutB
  rw [pickS_S hr, pickS_S hc]
  have e : cutD T rows cols T.rows.length 0 = S T.rows.length (fun i => S T.cols.length (fun j => if hasI rows (i : Int) = true then (if hasI cols (j : Int) = true then 0 else elOf T.hi i j) else 0)) -
      S T.rows.length (fun i => S T.cols.length (fun j => if hasI rows (i : Int) = true then 0 else (if hasI cols (j : Int) = true then elOf T.lo i j else 0))) := by
    rw [← S2_sub]
    show S T.rows.length _ + 0 = _
    rw [Int.add_zero]
    refine S2_congr (fun i j _ _ => ?_)
    unfold cutEl elOf
    cases hasI rows (i : Int) <;> cases hasI cols (j : Int) <;> simp
  rw [e]
  have h' : S T.rows.length (fun i => if hasI rows (i : Int) = true then ix T.rows i else 0) ≤
      S T.cols.length (fun j => if hasI cols (j : Int) = true then ix T.cols j else 0) +
      S T.rows.length (fun i => S T.cols.length (fun j => if hasI rows (i : Int) = true then (if hasI cols (j : Int) = true then 0 else elOf T.hi i j) else 0)) -
      S T.rows.length (fun i => S T.cols.length (fun j => if hasI rows (i : Int) = true then 0 else (if hasI cols (j : Int) = true then elOf T.lo i j else 0))) := h
  simp only [decide_eq_false_iff_not]
  omega
theorem no_cut_flow {T : Tr} {x : Nat → Nat → Int} (hx : Flow (NetT T) x) : firstCut T = none :=
  firstCut_none (fun s _ => cutB_flow hx (bits_rising T s) (cols_rising T _))
def RetInts2 (mk : Value → Value → Value) (w : World) (xs ys : List Int) (e : Ending) (w' : World) : Prop :=
  ∃ v1 v2 mid, e = .returned (mk v1 v2) ∧ w.heap.size ≤ mid ∧ mid ≤ w'.heap.size ∧ Own w.heap.size mid w' v1 xs ∧ Own mid w'.heap.size w' v2 ys ∧ Ext w w'
end Go.Proofs.Ythdfiebacomilaa
