/- Grids that a call builds by append of fresh rows; copies of matrices. -/
import Derived.Test.YtolmmhdeebgglaaApp
import Derived.Test.YtolmmhdeebgglaaBase
import Derived.Test.YtolmmhdeebgglaaEqual
namespace Go.Proofs.Ytolmmhdeebgglaa
open Go.RowKit

/-- a slice of rows in a block of the call's own, each row in a block of its own below hi -/
structure GRow (lo hi : Nat) (w : World) (v : Value) (rvs : List Value) (xss : List (List Int)) : Prop where
  own : w.ownsRow lo 22 1 v xss.length rvs
  row : ∀ k, k < xss.length → Own lo hi w (rvAt rvs k) (rowAt xss k)
  diff : ∀ j k, j < xss.length → k < xss.length → j ≠ k → rowAt xss j ≠ [] → rowAt xss k ≠ [] → blk (rvAt rvs j) ≠ blk (rvAt rvs k)
namespace GRow
variable {lo hi hi' : Nat} {w w' : World} {v : Value} {rvs : List Value} {xss : List (List Int)}
theorem nil : GRow lo hi w (.slice none 0 0) [] [] := ⟨World.ownsRow_nil _ _ _ _, fun k hk => by simp at hk, fun j k hj => by simp at hj⟩
theorem len (h : GRow lo hi w v rvs xss) : rvs.length = xss.length := by have := h.own.1; simpa using this
theorem ext (h : GRow lo hi w v rvs xss) (u : Ext w w') : GRow lo hi w' v rvs xss :=
  ⟨World.ownsRow.kept h.own (w' := w') (row := none) ⟨u.os, u.tape, u.output, u.size, fun k hk _ => u.block hk⟩ (by cases v.ownBlock <;> simp), fun k hk => (h.row k hk).ext u, h.diff⟩
theorem mono (h : GRow lo hi w v rvs xss) (hh : hi ≤ hi') : GRow lo hi' w v rvs xss := ⟨h.own, fun k hk => (h.row k hk).mono (Nat.le_refl _) hh, h.diff⟩
theorem blk (h : GRow lo hi w v rvs xss) {b : Nat} (hb : v.ownBlock = some b) : lo ≤ b ∧ b < w.heap.size := World.ownsRow.lt h.own b hb
theorem ownG (h : GRow lo hi w v rvs xss) (hh : w.heap.size ≤ hi') (h2 : hi ≤ hi') : OwnG lo hi' w v rvs xss :=
  OwnG.of_ownsRow h.own rfl hh (fun k hk => (h.row k hk).mono (Nat.le_refl _) h2) h.diff
theorem grew {u : World} (h : GRow lo hi w v rvs xss) (hx : Ext u w) (hlo : u.heap.size ≤ lo) (hg : w.grownBy w' v.ownBlock) : Ext u w' :=
  hx.of_upd (Upd.of_grown hg) (fun b hb => by have := (h.blk hb).1; omega)
/-- a fresh row (numbered from hi on) is appended -/
theorem push {x v' : Value} {r : List Int} (h : GRow lo hi w v rvs xss) (hlo : lo ≤ hi) (hx : Own hi hi' w x r) (h2 : hi ≤ hi') (hg : w.grownBy w' v.ownBlock) (hv : w'.ownsRow lo 22 1 v' (xss.length + 1) (rvs ++ [x])) :
    GRow lo hi' w' v' (rvs ++ [x]) (xss ++ [r]) := by
  have hl := h.len
  have keep : ∀ {lo2 : Nat} (y : Value) (ys : List Int), Own lo2 hi' w y ys → Own lo2 hi' w' y ys := fun y ys ho =>
    ho.upd (Upd.of_grown hg) (fun hy e => ho.ne_ownsRow h.own hy e)
  have old : ∀ j, j < xss.length → rvAt (rvs ++ [x]) j = rvAt rvs j ∧ rowAt (xss ++ [r]) j = rowAt xss j := fun j hj =>
    ⟨rvAt_append_left (by omega), by simp [rowAt, List.getD, hj, List.getElem?_append_left]⟩
  have new : rvAt (rvs ++ [x]) xss.length = x ∧ rowAt (xss ++ [r]) xss.length = r := by
    refine ⟨?_, by simp [rowAt, List.getD]⟩
    have := @rvAt_append_len rvs x; rwa [hl] at this
  refine ⟨by simpa using hv, fun k hk => ?_, fun j k hj hk hjk h1 h2' => ?_⟩
  · simp at hk
    by_cases e : k = xss.length
    · subst e; rw [new.1, new.2]; exact (keep _ _ hx).mono hlo (Nat.le_refl _)
    · rw [(old k (by omega)).1, (old k (by omega)).2]; exact keep _ _ ((h.row k (by omega)).mono (Nat.le_refl _) h2)
  · simp at hj hk
    by_cases e1 : j = xss.length
    · subst e1
      rw [new.1, (old k (by omega)).1]
      rw [new.2] at h1
      rw [(old k (by omega)).2] at h2'
      have a1 := hx.range h1
      have a2 := (h.row k (by omega)).range h2'
      omega
    · rw [(old j (by omega)).1]
      rw [(old j (by omega)).2] at h1
      by_cases e2 : k = xss.length
      · subst e2
        rw [new.1]
        rw [new.2] at h2'
        have a1 := hx.range h2'
        have a2 := (h.row j (by omega)).range h1
        omega
      · rw [(old k (by omega)).1]
        rw [(old k (by omega)).2] at h2'
        exact h.diff j k (by omega) (by omega) hjk h1 h2'
end GRow



end Go.Proofs.Ytolmmhdeebgglaa
