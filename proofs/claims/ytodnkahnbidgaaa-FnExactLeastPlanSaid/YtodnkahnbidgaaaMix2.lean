/- Grids of a call's own that are written in place: where an element lies. -/
import Derived.Test.YtodnkahnbidgaaaLib
namespace Go.Proofs.Ytodnkahnbidgaaa
open Go.RowKit
namespace OwnGA
variable {lo hi : Nat} {w : World} {ao : Option Addr} {rvs : List Value} {zs : List (List Int)}
theorem rowForm (h : OwnGA lo hi w ao rvs zs) {k : Nat} (hk : k < zs.length) : ∃ ar cr, rvAt rvs k = .slice ar (rowAt zs k).length cr ∧ (rowAt zs k).length ≤ cr ∧ cr ≤ 9223372036854775807 := by
  obtain ⟨ar, cr, e, h1, h2, _⟩ := h.row k hk
  exact ⟨ar, cr, e, h1, h2⟩
/-- an element: where it lies, and what a store makes of the grid -/
theorem store (h : OwnGA lo hi w ao rvs zs) {k l n cr : Nat} {ar : Option Addr} (hk : k < zs.length) (hl : l < (rowAt zs k).length) (hv : rvAt rvs k = .slice ar n cr) :
    ∃ b o, ar = some ⟨b, o, none⟩ ∧ lo ≤ b ∧ b < hi ∧ b < w.heap.size ∧ w.cell? ⟨b, o + l, none⟩ = some (.int .i64 (ix (rowAt zs k) l)) ∧ w.frozen? ⟨b, o + l, none⟩ = false ∧
      ∀ x : Int, OwnGA lo hi (w.setCell ⟨b, o + l, none⟩ (.int .i64 x)) ao rvs (zs.set k ((rowAt zs k).set l x)) := by
  obtain ⟨ar', cr', e, h1, h2, h3⟩ := h.row k hk
  rw [hv] at e
  obtain ⟨rfl, rfl, rfl⟩ : ar = ar' ∧ n = (rowAt zs k).length ∧ cr = cr' := by simpa using e
  obtain ⟨b, o, rfl, l1, l2, l3, hc, hf⟩ := h3.at_ hl
  have hne : rowAt zs k ≠ [] := by intro e; rw [e] at hl; simp at hl
  refine ⟨b, o, rfl, l1, l2, l3, hc, hf, fun x => ?_⟩
  have hrow : Own lo hi (w.setCell ⟨b, o + l, none⟩ (.int .i64 x)) (rvAt rvs k) ((rowAt zs k).set l x) := by
    rw [hv]; exact ⟨some ⟨b, o, none⟩, cr, by simp, by simpa using h1, h2, h3.set hl x⟩
  exact h.put hk (by simp) hrow ((Upd.refl w).setCell _ (fun _ => ⟨hne, by rw [hv]; rfl⟩))
end OwnGA
namespace OwnGA
variable {lo hi : Nat} {S : Nat → Prop} {w w' : World} {ao : Option Addr} {rvs : List Value} {zs : List (List Int)}
theorem away (h : OwnGA lo hi w ao rvs zs) (u : Upd S w w') (hs : ∀ b, S b → b < lo ∨ hi ≤ b) : OwnGA lo hi w' ao rvs zs :=
  h.upd u (fun hx s => by have := hs _ s; have := h.range hx; omega) (fun k hk hr s => by have := hs _ s; have := (h.row k hk).range hr; omega)
theorem put_away (h : OwnGA lo hi w ao rvs zs) (a : Addr) (x : Value) (ha : a.block < lo ∨ hi ≤ a.block) : OwnGA lo hi (w.setCell a x) ao rvs zs :=
  h.away (S := fun b => b = a.block) ((Upd.refl w).setCell x (fun _ => rfl)) (fun b hb => by subst hb; exact ha)
end OwnGA
end Go.Proofs.Ytodnkahnbidgaaa
