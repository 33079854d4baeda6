/- Grids that a call fills row by row; what is left between rows and columns, plain. -/
import Derived.Test.YtodnkahnbidgaaaPush
namespace Go.Proofs.Ytodnkahnbidgaaa
open Go.RowKit
open Fm

theorem rvAt_set {rvs : List Value} {k j : Nat} {x : Value} : rvAt (rvs.set k x) j = if j = k ∧ k < rvs.length then x else rvAt rvs j := by
  simp only [rvAt, List.getD, List.getElem?_set]
  by_cases h : k = j
  · subst h
    by_cases h2 : k < rvs.length <;> simp [h2]
  · have h' : ¬ j = k := fun e => h e.symm
    simp [h, h']
theorem rowAt_replicate {n k : Nat} {r : List Int} (h : k < n) : rowAt (List.replicate n r) k = r := by simp [rowAt, List.getD, h]
theorem rvAt_replicate {n k : Nat} {r : Value} (h : k < n) : rvAt (List.replicate n r) k = r := by simp [rvAt, List.getD, h]
theorem ix_replicate {n k : Nat} {r : Int} (h : k < n) : ix (List.replicate n r) k = r := by simp [ix, List.getD, h]
theorem alloc_setCell {w : World} {o : Obj} {a : Addr} {v : Value} (h : a.block < w.heap.size) : (w.alloc o).setCell a v = (w.setCell a v).alloc o := by
  unfold World.setCell World.alloc
  simp only [World.mk.injEq, and_true]
  apply Array.ext
  · simp
  · intro i h1 h2
    simp only [Array.getElem_modify, Array.getElem_push, Array.size_modify]
    by_cases e : a.block = i
    · subst e; simp [h]
    · simp [e]
namespace OwnGA
variable {lo hi hi' : Nat} {w w' : World} {rvs : List Value} {xss : List (List Int)}
/-- rows of nothing, just made -/
theorem made (w : World) (n g : Nat) (hg : w.heap.size = g) (hl : lo ≤ g) (hh : g < hi) :
    OwnGA lo hi (w.alloc (.cells (madeCells #[.slice none 0 0] n) 36)) (some ⟨g, 0, none⟩) (List.replicate n (.slice none 0 0)) (List.replicate n []) := by
  subst hg
  obtain ⟨c, hb, _, hc⟩ := World.rowIs_made w (.slice none 0 0) n 36
  refine ⟨by simp, .inr ⟨w.heap.size, 0, c, rfl, hl, hh, hb, fun k hk => ?_⟩, fun k hk => ?_, fun j k hj hk _ hr => ?_⟩
  · have hk' : k < n := by simpa using hk
    rw [Nat.zero_add, hc k hk', rvAt_replicate hk']
  · have hk' : k < n := by simpa using hk
    rw [rvAt_replicate hk', rowAt_replicate hk']; exact Own.nil
  · have hj' : j < n := by simpa using hj
    exact absurd (rowAt_replicate hj') hr
/-- a fresh row takes the place of a row -/
theorem putRow {g o k : Nat} {x : Value} {ys : List Int} (h : OwnGA lo hi w (some ⟨g, o, none⟩) rvs xss) (hk : k < xss.length) (u : Ext w w') (hx : Own hi hi' w' x ys) (hl : lo ≤ hi) (hh : hi ≤ hi') :
    OwnGA lo hi' (w'.setCell ⟨g, o + k, none⟩ x) (some ⟨g, o, none⟩) (rvs.set k x) (xss.set k ys) := by
  have h0 := h.ext u
  have hlen := h.len
  obtain ⟨g', o', c, e, l1, l2, hg, hc⟩ : ∃ g' o' c, (some ⟨g, o, none⟩ : Option Addr) = some ⟨g', o', none⟩ ∧ lo ≤ g' ∧ g' < hi ∧ w'.heap[g']? = some (.cells c 36 (0, 0)) ∧ ∀ k, k < xss.length → c[o' + k]? = some (rvAt rvs k) := by
    rcases h0.spine with h3 | h3
    · subst h3; simp at hk
    · exact h3
  simp only [Option.some.injEq, Addr.mk.injEq, and_true] at e
  obtain ⟨rfl, rfl⟩ := e
  have hU : Upd (fun b => b = g) w' (w'.setCell ⟨g, o + k, none⟩ x) := (Upd.refl _).setCell _ (fun _ => rfl)
  have hx' : Own hi hi' (w'.setCell ⟨g, o + k, none⟩ x) x ys := hx.upd hU (fun hne e => by have := hx.range hne; omega)
  refine ⟨by simp [hlen], .inr ⟨g, o, c.setIfInBounds (o + k) x, rfl, l1, by omega, ?_, fun j hj => ?_⟩, fun j hj => ?_, fun i j hi_ hj hij hri hrj => ?_⟩
  · simp [World.setCell, Array.getElem?_modify, hg]
  · have hj' : j < xss.length := by simpa using hj
    have hb : o + k < c.size := (Array.getElem?_eq_some_iff.1 (hc k hk)).1
    rw [Array.getElem?_setIfInBounds, rvAt_set]
    by_cases e : j = k
    · subst e; simp [hb, hlen, hk]
    · rw [if_neg (by omega), if_neg (fun h => e h.1)]; exact hc j hj'
  · have hj' : j < xss.length := by simpa using hj
    rw [rvAt_set, rowAt_set]
    by_cases e : j = k
    · subst e; rw [if_pos ⟨rfl, by omega⟩, if_pos ⟨rfl, hk⟩]; exact hx'.mono hl (Nat.le_refl _)
    · rw [if_neg (fun h => e h.1), if_neg (fun h => e h.1)]
      exact ((h0.row j hj').upd hU (fun hr e2 => h0.apart hj' hr e2)).mono (Nat.le_refl _) hh
  · have hi2 : i < xss.length := by simpa using hi_
    have hj2 : j < xss.length := by simpa using hj
    rw [rowAt_set] at hri hrj
    rw [rvAt_set, rvAt_set]
    by_cases ei : i = k
    · have ej : ¬ j = k := fun e => hij (ei.trans e.symm)
      rw [if_pos ⟨ei, hk⟩] at hri
      rw [if_neg (fun h => ej h.1)] at hrj
      rw [if_pos ⟨ei, by omega⟩, if_neg (fun h => ej h.1)]
      have a1 := hx.range hri
      have a2 := (h0.row j hj2).range hrj
      omega
    · rw [if_neg (fun h => ei h.1)] at hri
      rw [if_neg (fun h => ei h.1)]
      by_cases ej : j = k
      · rw [if_pos ⟨ej, hk⟩] at hrj
        rw [if_pos ⟨ej, by omega⟩]
        have a1 := hx.range hrj
        have a2 := (h0.row i hi2).range hri
        omega
      · rw [if_neg (fun h => ej h.1)] at hrj
        rw [if_neg (fun h => ej h.1)]
        exact h0.diff i j hi2 hj2 hij hri hrj
end OwnGA
theorem Own.made (w : World) (n : Nat) {lo hi : Nat} (hl : lo ≤ w.heap.size) (hh : w.heap.size < hi) (hn : n ≤ 9223372036854775807) :
    Own lo hi (w.alloc (.cells (madeCells #[.int .i64 0] n) 3)) (.slice (some ⟨w.heap.size, 0, none⟩) n n) (List.replicate n 0) :=
  Own.of_rowIs (World.rowIs_made w (.int .i64 0) n 3) (by simp) (fun j hj => by rw [ix_replicate hj]) hl hh hn

/-- what is left: Hi - x from a row to a column, x - Lo back, where P -/
def resD (n : Nat) (lo hi x : Nat → Nat → Int) (P : Nat → Nat → Bool) (a b : Nat) : Int :=
  if a < n then (if n ≤ b then (if P a (b - n) = true then hi a (b - n) - x a (b - n) else 0) else 0)
  else (if b < n then (if P b (a - n) = true then x b (a - n) - lo b (a - n) else 0) else 0)
theorem resD_step {n : Nat} {lo hi x : Nat → Nat → Int} {P P' : Nat → Nat → Bool} {k l : Nat} (hk : k < n) (h1 : P' k l = true) (h2 : ∀ i j, ¬ (i = k ∧ j = l) → P' i j = P i j) (a b : Nat) :
    resD n lo hi x P' a b = if a = n + l ∧ b = k then x k l - lo k l else if a = k ∧ b = n + l then hi k l - x k l else resD n lo hi x P a b := by
  unfold resD
  by_cases ha : a < n
  · rw [if_pos ha, if_pos ha, if_neg (fun e : a = n + l ∧ b = k => by omega)]
    by_cases hb : n ≤ b
    · rw [if_pos hb, if_pos hb]
      by_cases e : a = k ∧ b - n = l
      · obtain ⟨rfl, rfl⟩ := e
        rw [if_pos h1, if_pos ⟨rfl, by omega⟩]
      · rw [h2 _ _ e, if_neg (fun e' : a = k ∧ b = n + l => e ⟨e'.1, by omega⟩)]
    · rw [if_neg hb, if_neg hb, if_neg (fun e' : a = k ∧ b = n + l => by omega)]
  · rw [if_neg ha, if_neg ha]
    rw [if_neg (fun e : a = k ∧ b = n + l => by omega)]
    by_cases hb : b < n
    · rw [if_pos hb, if_pos hb]
      by_cases e : b = k ∧ a - n = l
      · obtain ⟨rfl, rfl⟩ := e
        rw [if_pos h1, if_pos ⟨by omega, rfl⟩]
      · rw [h2 _ _ e, if_neg (fun e' : a = n + l ∧ b = k => e ⟨e'.2, by omega⟩)]
    · rw [if_neg hb, if_neg hb, if_neg (fun e : a = n + l ∧ b = k => by omega)]
theorem resD_congr {n m : Nat} {lo hi x : Nat → Nat → Int} {P P' : Nat → Nat → Bool} (h : ∀ i j, i < n → j < m → P' i j = P i j) {a b : Nat} (ha : a < n + m) (hb : b < n + m) :
    resD n lo hi x P' a b = resD n lo hi x P a b := by
  unfold resD
  by_cases h1 : a < n
  · rw [if_pos h1, if_pos h1]
    by_cases h2 : n ≤ b
    · rw [if_pos h2, if_pos h2, h _ _ h1 (by omega)]
    · rw [if_neg h2, if_neg h2]
  · rw [if_neg h1, if_neg h1]
    by_cases h2 : b < n
    · rw [if_pos h2, if_pos h2, h _ _ h2 (by omega)]
    · rw [if_neg h2, if_neg h2]
theorem resD_none {n : Nat} {lo hi x : Nat → Nat → Int} {P : Nat → Nat → Bool} (h : ∀ i j, P i j = false) (a b : Nat) : resD n lo hi x P a b = 0 := by
  unfold resD
  rw [h, h]; simp
/-- behind the position 'fixed', in the order of matrices -/
def pastB (m : Nat) (fixed : Int) (i j : Nat) : Bool := decide (fixed < (i : Int) * (m : Int) + (j : Int))
/-- and before (k, l) -/
def pastUp (m : Nat) (fixed : Int) (k l : Nat) (i j : Nat) : Bool := pastB m fixed i j && (decide (i < k) || (decide (i = k) && decide (j < l)))
theorem pastUp_zero (m : Nat) (fixed : Int) (i j : Nat) : pastUp m fixed 0 0 i j = false := by simp [pastUp]
theorem pastUp_next {m : Nat} (fixed : Int) (k : Nat) {i j : Nat} (hj : j < m) : pastUp m fixed (k + 1) 0 i j = pastUp m fixed k m i j := by
  unfold pastUp
  by_cases h1 : i < k
  · simp [h1, Nat.lt_succ_of_lt h1]
  · by_cases h2 : i = k
    · subst h2; simp [hj]
    · have : ¬ i < k + 1 := by omega
      simp [h1, h2, this]
theorem pastUp_all {n m : Nat} (fixed : Int) {i j : Nat} (hi : i < n) : pastUp m fixed n 0 i j = pastB m fixed i j := by simp [pastUp, hi]
theorem pastUp_at {m : Nat} {fixed : Int} {k l : Nat} (h : fixed < (k : Int) * (m : Int) + (l : Int)) : pastUp m fixed k (l + 1) k l = true := by simp [pastUp, pastB, h]
theorem pastUp_else {m : Nat} {fixed : Int} {k l : Nat} (i j : Nat) (h : ¬ (i = k ∧ j = l)) : pastUp m fixed k (l + 1) i j = pastUp m fixed k l i j := by
  unfold pastUp
  by_cases h2 : i = k
  · have : j ≠ l := fun e => h ⟨h2, e⟩
    have e : (j < l + 1) = (j < l) := by apply propext; omega
    simp [h2, e]
  · simp [h2]
theorem pastUp_skip {m : Nat} {fixed : Int} {k l : Nat} (h : ¬ fixed < (k : Int) * (m : Int) + (l : Int)) (i j : Nat) : pastUp m fixed k (l + 1) i j = pastUp m fixed k l i j := by
  by_cases e : i = k ∧ j = l
  · obtain ⟨rfl, rfl⟩ := e
    have hb : pastB m fixed i j = false := by simp [pastB]; omega
    simp [pastUp, hb]
  · exact pastUp_else i j e
theorem mul_le8 {k m : Nat} (hk : k ≤ 8) (hm : m ≤ 8) : 0 ≤ (k : Int) * (m : Int) ∧ (k : Int) * (m : Int) ≤ 64 := by
  have h := Nat.mul_le_mul hk hm
  have e : (k : Int) * (m : Int) = ((k * m : Nat) : Int) := by simp
  rw [e]; omega
end Go.Proofs.Ytodnkahnbidgaaa
