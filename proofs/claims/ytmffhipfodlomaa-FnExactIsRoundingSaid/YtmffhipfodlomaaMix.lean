/- Grids of a call's own that are written in place, element by element. -/
import Derived.Test.YtmffhipfodlomaaMapG
namespace Go.Proofs.Ytmffhipfodlomaa
open Go.RowKit

/-- zs is xss with the elements before (k, l) turned by f -/
structure Mix (f : Nat → Nat → Int → Int) (xss zs : List (List Int)) (k l : Nat) : Prop where
  len : zs.length = xss.length
  row : ∀ i, i < xss.length → (rowAt zs i).length = (rowAt xss i).length
  el : ∀ i j, i < xss.length → j < (rowAt xss i).length → ix (rowAt zs i) j = if i < k ∨ (i = k ∧ j < l) then f i j (ix (rowAt xss i) j) else ix (rowAt xss i) j
namespace Mix
variable {f : Nat → Nat → Int → Int} {xss zs : List (List Int)} {k l : Nat}
theorem start : Mix f xss xss 0 0 := ⟨rfl, fun _ _ => rfl, fun i j _ _ => by rw [if_neg (by omega)]⟩
theorem next (h : Mix f xss zs k l) (hl : (rowAt xss k).length ≤ l) : Mix f xss zs (k + 1) 0 :=
  ⟨h.len, h.row, fun i j hi hj => by
    rw [h.el i j hi hj]
    by_cases e2 : i = k
    · subst e2; rw [if_pos (by omega), if_pos (by omega)]
    · by_cases e : i < k
      · rw [if_pos (by omega), if_pos (by omega)]
      · rw [if_neg (by omega), if_neg (by omega)]⟩
theorem at_ (h : Mix f xss zs k l) (hk : k < xss.length) (hl : l < (rowAt xss k).length) : ix (rowAt zs k) l = ix (rowAt xss k) l := by
  rw [h.el k l hk hl, if_neg (by omega)]
theorem step (h : Mix f xss zs k l) (hk : k < xss.length) (hl : l < (rowAt xss k).length) {x : Int} (hx : x = f k l (ix (rowAt xss k) l)) : Mix f xss (zs.set k ((rowAt zs k).set l x)) k (l + 1) where
  len := by simp [h.len]
  row i hi := by
    rw [rowAt_set]; split
    · rename_i e; obtain ⟨rfl, _⟩ := e; simp [h.row _ hi]
    · exact h.row i hi
  el i j hi hj := by
    rw [rowAt_set]
    have hz := h.len
    have hr := h.row i hi
    by_cases e : i = k
    · subst e
      rw [if_pos ⟨rfl, by omega⟩, ix_set]
      by_cases e2 : j = l
      · subst e2; rw [if_pos ⟨rfl, by omega⟩, if_pos (by omega)]; exact hx
      · rw [if_neg (by omega), h.el i j hi hj]
        by_cases e3 : j < l
        · rw [if_pos (by omega), if_pos (by omega)]
        · rw [if_neg (by omega), if_neg (by omega)]
    · rw [if_neg (by omega), h.el i j hi hj]
      by_cases e3 : i < k
      · rw [if_pos (by omega), if_pos (by omega)]
      · rw [if_neg (by omega), if_neg (by omega)]
theorem keep (h : Mix f xss zs k l) (_hk : k < xss.length) (hl : l < (rowAt xss k).length) (hx : ix (rowAt xss k) l = f k l (ix (rowAt xss k) l)) : Mix f xss zs k (l + 1) :=
  ⟨h.len, h.row, fun i j hi hj => by
    rw [h.el i j hi hj]
    by_cases e : i = k ∧ j = l
    · obtain ⟨rfl, rfl⟩ := e
      rw [if_neg (by omega), if_pos (by omega)]; exact hx
    · by_cases e3 : i < k ∨ (i = k ∧ j < l)
      · rw [if_pos (by omega), if_pos (by omega)]
      · rw [if_neg (by omega), if_neg (by omega)]⟩
theorem done (h : Mix f xss zs k 0) (hk : xss.length ≤ k) : zs = mapG f xss := by
  apply list_ext_rowAt (by rw [h.len, mapG_length])
  intro i hi
  rw [h.len] at hi
  rw [rowAt_mapG hi]
  apply list_ext_ix (by rw [rowF_length, h.row i hi])
  intro j hj
  rw [h.row i hi] at hj
  rw [ix_rowF hj, h.el i j hi hj, if_pos (by omega)]
end Mix
/-- two stores into one element -/
theorem set_set_el {zs : List (List Int)} {k l : Nat} (hk : k < zs.length) (x y : Int) :
    (zs.set k ((rowAt zs k).set l x)).set k ((rowAt (zs.set k ((rowAt zs k).set l x)) k).set l y) = zs.set k ((rowAt zs k).set l y) := by
  rw [rowAt_set, if_pos ⟨rfl, hk⟩, List.set_set, List.set_set]

namespace OwnGA
variable {lo hi : Nat} {w : World} {ao : Option Addr} {rvs : List Value} {zs : List (List Int)}
theorem rowForm (h : OwnGA lo hi w ao rvs zs) {k : Nat} (hk : k < zs.length) : ∃ ar cr, rvAt rvs k = .slice ar (rowAt zs k).length cr ∧ (rowAt zs k).length ≤ cr ∧ cr ≤ 9223372036854775807 := by
  obtain ⟨ar, cr, e, h1, h2, _⟩ := h.row k hk
  exact ⟨ar, cr, e, h1, h2⟩
/-- an element: where it lies, and what a store makes of the grid -/
theorem store (h : OwnGA lo hi w ao rvs zs) {k l n cr : Nat} {ar : Option Addr} (hk : k < zs.length) (hl : l < (rowAt zs k).length) (hv : rvAt rvs k = .slice ar n cr) :
    ∃ b o, ar = some ⟨b, o, none⟩ ∧ lo ≤ b ∧ b < hi ∧ b < w.heap.size ∧ w.cell? ⟨b, o + l, none⟩ = some (.int .i64 (ix (rowAt zs k) l)) ∧ w.frozen? ⟨b, o + l, none⟩ = false ∧
      ∀ x : Int, OwnGA lo hi (w.setCell ⟨b, o + l, none⟩ (.int .i64 x)) ao rvs (zs.set k ((rowAt zs k).set l x)) := by
  obtain ⟨ar', cr', e, h1, h2, h3⟩ := h.row k hk
  rw [hv] at e
  obtain ⟨rfl, rfl, rfl⟩ : ar = ar' ∧ n = (rowAt zs k).length ∧ cr = cr' := by simpa using e
  obtain ⟨b, o, rfl, l1, l2, l3, hc, hf⟩ := h3.at_ hl
  have hne : rowAt zs k ≠ [] := by intro e; rw [e] at hl; simp at hl
  refine ⟨b, o, rfl, l1, l2, l3, hc, hf, fun x => ?_⟩
  have hrow : Own lo hi (w.setCell ⟨b, o + l, none⟩ (.int .i64 x)) (rvAt rvs k) ((rowAt zs k).set l x) := by
    rw [hv]; exact ⟨some ⟨b, o, none⟩, cr, by simp, by simpa using h1, h2, h3.set hl x⟩
  exact h.put hk (by simp) hrow ((Upd.refl w).setCell _ (fun _ => ⟨hne, by rw [hv]; rfl⟩))
end OwnGA
end Go.Proofs.Ytmffhipfodlomaa
