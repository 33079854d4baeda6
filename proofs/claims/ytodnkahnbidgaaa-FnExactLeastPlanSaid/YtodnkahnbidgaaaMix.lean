/- Grids of a call's own that are written in place, element by element. -/
import Derived.Test.YtodnkahnbidgaaaMapG
import Derived.Test.YtodnkahnbidgaaaMix2
namespace Go.Proofs.Ytodnkahnbidgaaa
open Go.RowKit

/-- zs is xss with the elements before (k, l) turned by f -/
structure Mix (f : Nat → Nat → Int → Int) (xss zs : List (List Int)) (k l : Nat) : Prop where
  len : zs.length = xss.length
  row : ∀ i, i < xss.length → (rowAt zs i).length = (rowAt xss i).length
  el : ∀ i j, i < xss.length → j < (rowAt xss i).length → ix (rowAt zs i) j = if i < k ∨ (i = k ∧ j < l) then f i j (ix (rowAt xss i) j) else ix (rowAt xss i) j
namespace Mix
variable {f : Nat → Nat → Int → Int} {xss zs : List (List Int)} {k l : Nat}
theorem start : Mix f xss xss 0 0 := ⟨rfl, fun _ _ => rfl, fun i j _ _ => by rw [if_neg (by omega)]⟩
theorem next (h : Mix f xss zs k l) (hl : (rowAt xss k).length ≤ l) : Mix f xss zs (k + 1) 0 :=
  ⟨h.len, h.row, fun i j hi hj => by
    rw [h.el i j hi hj]
    by_cases e2 : i = k
    · subst e2; rw [if_pos (by omega), if_pos (by omega)]
    · by_cases e : i < k
      · rw [if_pos (by omega), if_pos (by omega)]
      · rw [if_neg (by omega), if_neg (by omega)]⟩
theorem at_ (h : Mix f xss zs k l) (hk : k < xss.length) (hl : l < (rowAt xss k).length) : ix (rowAt zs k) l = ix (rowAt xss k) l := by
  rw [h.el k l hk hl, if_neg (by omega)]
theorem step (h : Mix f xss zs k l) (hk : k < xss.length) (hl : l < (rowAt xss k).length) {x : Int} (hx : x = f k l (ix (rowAt xss k) l)) : Mix f xss (zs.set k ((rowAt zs k).set l x)) k (l + 1) where
  len := by simp [h.len]
  row i hi := by
    rw [rowAt_set]; split
    · rename_i e; obtain ⟨rfl, _⟩ := e; simp [h.row _ hi]
    · exact h.row i hi
  el i j hi hj := by
    rw [rowAt_set]
    have hz := h.len
    have hr := h.row i hi
    by_cases e : i = k
    · subst e
      rw [if_pos ⟨rfl, by omega⟩, ix_set]
      by_cases e2 : j = l
      · subst e2; rw [if_pos ⟨rfl, by omega⟩, if_pos (by omega)]; exact hx
      · rw [if_neg (by omega), h.el i j hi hj]
        by_cases e3 : j < l
        · rw [if_pos (by omega), if_pos (by omega)]
        · rw [if_neg (by omega), if_neg (by omega)]
    · rw [if_neg (by omega), h.el i j hi hj]
      by_cases e3 : i < k
      · rw [if_pos (by omega), if_pos (by omega)]
      · rw [if_neg (by omega), if_neg (by omega)]
theorem keep (h : Mix f xss zs k l) (_hk : k < xss.length) (hl : l < (rowAt xss k).length) (hx : ix (rowAt xss k) l = f k l (ix (rowAt xss k) l)) : Mix f xss zs k (l + 1) :=
  ⟨h.len, h.row, fun i j hi hj => by
    rw [h.el i j hi hj]
    by_cases e : i = k ∧ j = l
    · obtain ⟨rfl, rfl⟩ := e
      rw [if_neg (by omega), if_pos (by omega)]; exact hx
    · by_cases e3 : i < k ∨ (i = k ∧ j < l)
      · rw [if_pos (by omega), if_pos (by omega)]
      · rw [if_neg (by omega), if_neg (by omega)]⟩
theorem done (h : Mix f xss zs k 0) (hk : xss.length ≤ k) : zs = mapG f xss := by
  apply list_ext_rowAt (by rw [h.len, mapG_length])
  intro i hi
  rw [h.len] at hi
  rw [rowAt_mapG hi]
  apply list_ext_ix (by rw [rowF_length, h.row i hi])
  intro j hj
  rw [h.row i hi] at hj
  rw [ix_rowF hj, h.el i j hi hj, if_pos (by omega)]
end Mix
/-- two stores into one element -/
theorem set_set_el {zs : List (List Int)} {k l : Nat} (hk : k < zs.length) (x y : Int) :
    (zs.set k ((rowAt zs k).set l x)).set k ((rowAt (zs.set k ((rowAt zs k).set l x)) k).set l y) = zs.set k ((rowAt zs k).set l y) := by
  rw [rowAt_set, if_pos ⟨rfl, hk⟩, List.set_set, List.set_set]

end Go.Proofs.Ytodnkahnbidgaaa
