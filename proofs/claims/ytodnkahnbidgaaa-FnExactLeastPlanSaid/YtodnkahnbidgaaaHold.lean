/- Rows and grids that a call builds keep their contents when other blocks are written. -/
import Derived.Test.YtodnkahnbidgaaaSep
import Derived.Test.YtodnkahnbidgaaaGrow
namespace Go.Proofs.Ytodnkahnbidgaaa
open Go.RowKit
theorem ownsRow_upd {S : Nat → Prop} {w w' : World} {lo e sz n : Nat} {v : Value} {xs : List Value} (h : w.ownsRow lo e sz v n xs) (u : Upd S w w') (hs : ∀ b, v.ownBlock = some b → ¬ S b) : w'.ownsRow lo e sz v n xs := by
  refine ⟨h.1, ?_⟩
  rcases h.2 with hn | ⟨g, cap, cur, rfl, hb, hgg, rest⟩
  · exact .inl hn
  · refine .inr ⟨g, cap, cur, rfl, hb, ?_, rest⟩
    rw [Upd.block u g (Array.getElem?_eq_some_iff.1 hgg).1 (hs g rfl)]; exact hgg
theorem IRow.upd {S : Nat → Prop} {w w' : World} {lo : Nat} {v : Value} {xs : List Int} (h : IRow lo w v xs) (u : Upd S w w') (hs : ∀ b, v.ownBlock = some b → ¬ S b) : IRow lo w' v xs := ownsRow_upd h u hs
/-- a store into a block below the row's -/
theorem IRow.put {w : World} {lo : Nat} {v : Value} {xs : List Int} (h : IRow lo w v xs) {a : Addr} (ha : a.block < lo) (x : Value) : IRow lo (w.setCell a x) v xs :=
  h.upd (S := fun b => b = a.block) ((Upd.refl w).setCell x (fun _ => rfl)) (fun b hb e => by have := (h.blk hb).1; omega)
theorem GRow.upd {S : Nat → Prop} {w w' : World} {lo hi : Nat} {v : Value} {rvs : List Value} {xss : List (List Int)} (h : GRow lo hi w v rvs xss) (u : Upd S w w') (hs : ∀ b, v.ownBlock = some b → ¬ S b) (hr : ∀ b, rowBlks rvs xss b → ¬ S b) : GRow lo hi w' v rvs xss :=
  ⟨ownsRow_upd h.own u hs, fun k hk => (h.row k hk).upd u (fun hne => hr _ ⟨k, hk, hne, rfl⟩), h.diff⟩
theorem GRow.rows {w : World} {lo hi : Nat} {v : Value} {rvs : List Value} {xss : List (List Int)} (h : GRow lo hi w v rvs xss) {b : Nat} (hb : rowBlks rvs xss b) : lo ≤ b ∧ b < hi ∧ b < w.heap.size := by
  obtain ⟨k, hk, hne, rfl⟩ := hb; exact (h.row k hk).range hne
theorem GRow.put {w : World} {lo hi : Nat} {v : Value} {rvs : List Value} {xss : List (List Int)} (h : GRow lo hi w v rvs xss) {a : Addr} (ha : a.block < lo) (x : Value) : GRow lo hi (w.setCell a x) v rvs xss :=
  h.upd (S := fun b => b = a.block) ((Upd.refl w).setCell x (fun _ => rfl)) (fun b hb e => by have := (h.blk hb).1; omega) (fun b hb e => by have := (h.rows hb).1; omega)
/-- the four stores that hand a struct back -/
abbrev put4 (w : World) (B : Nat) (x0 x1 x2 x3 : Value) : World := (((w.setCell ⟨B, 0, none⟩ x0).setCell ⟨B, 1, none⟩ x1).setCell ⟨B, 2, none⟩ x2).setCell ⟨B, 3, none⟩ x3
theorem Own.put4 {w : World} {lo hi B : Nat} {v : Value} {xs : List Int} (h : Own lo hi w v xs) (hB : B < lo) (x0 x1 x2 x3 : Value) : Own lo hi (put4 w B x0 x1 x2 x3) v xs :=
  (((h.put_away _ _ (.inl hB)).put_away _ _ (.inl hB)).put_away _ _ (.inl hB)).put_away _ _ (.inl hB)
theorem OwnG.put4 {w : World} {lo hi B : Nat} {v : Value} {rvs : List Value} {xss : List (List Int)} (h : OwnG lo hi w v rvs xss) (hB : B < lo) (x0 x1 x2 x3 : Value) : OwnG lo hi (put4 w B x0 x1 x2 x3) v rvs xss :=
  (((h.put_away _ _ (.inl hB)).put_away _ _ (.inl hB)).put_away _ _ (.inl hB)).put_away _ _ (.inl hB)
theorem Ext.put4 {u w : World} {B : Nat} (h : Ext u w) (hB : u.heap.size ≤ B) (x0 x1 x2 x3 : Value) : Ext u (put4 w B x0 x1 x2 x3) :=
  (((h.setCell _ hB).setCell _ hB).setCell _ hB).setCell _ hB
theorem Upd.put4 {u w : World} {B : Nat} (h : Upd (fun b => b = B) u w) {B' : Nat} (e : B' = B) (x0 x1 x2 x3 : Value) : Upd (fun b => b = B) u (put4 w B' x0 x1 x2 x3) :=
  (((h.setCell _ (fun _ => e)).setCell _ (fun _ => e)).setCell _ (fun _ => e)).setCell _ (fun _ => e)
theorem put4_size (w : World) (B : Nat) (x0 x1 x2 x3 : Value) : (put4 w B x0 x1 x2 x3).heap.size = w.heap.size := by simp [put4, World.setCell]
end Go.Proofs.Ytodnkahnbidgaaa
