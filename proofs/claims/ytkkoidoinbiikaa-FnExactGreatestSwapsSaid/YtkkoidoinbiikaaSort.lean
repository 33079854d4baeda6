/- slices.Sort of ints, by the shelf's contract, over slices in blocks of the call's own. -/
import Derived.Test.YtkkoidoinbiikaaSortLay
import Derived.Test.YtkkoidoinbiikaaSortP
namespace Go.Proofs.Ytkkoidoinbiikaa
open Go.RowKit Go.Sort

theorem own_holds {w : World} {g o : Nat} {c : Array Value} {xs : List Int} (hg : w.heap[g]? = some (.cells c 3 (0, 0))) (hc : ∀ k, k < xs.length → c[o + k]? = some (.int .i64 (ix xs k))) : Holds (Value.int .i64) w g o xs.toArray := fun j hj => by
  have hj' : j < xs.length := by simpa using hj
  refine ⟨?_, by simp [World.frozen?, hg]⟩
  have h5 := hc j hj'
  have e : ix xs j = xs.toArray[j]! := by rw [ix_eq hj']; simp [hj']
  rw [e] at h5
  simp [World.cell?, hg, h5]
/-- the row's cells are written anew -/
theorem own_put {lo hi g o cap n : Nat} {w : World} {c : Array Value} {xs ys : List Int} {os : Array Obj} (hne : xs ≠ []) (hl : ys.length = xs.length) (h1 : xs.length ≤ cap) (h2 : cap ≤ 9223372036854775807) (l1 : lo ≤ g) (l2 : g < hi)
    (hg : w.heap[g]? = some (.cells c 3 (0, 0))) (hc : ∀ k, k < xs.length → c[o + k]? = some (.int .i64 (ix xs k))) :
    Own lo hi (grow (putRow (Value.int .i64) (Sort.ahead w n) g o ys.toArray) os) (.slice (some ⟨g, o, none⟩) xs.length cap) ys ∧ Upd (fun b => xs ≠ [] ∧ b = blk (.slice (some ⟨g, o, none⟩) xs.length cap)) w (grow (putRow (Value.int .i64) (Sort.ahead w n) g o ys.toArray) os) := by
  have hlt : g < w.heap.size := (Array.getElem?_eq_some_iff.1 hg).1
  have hold : ∀ b, b < w.heap.size → (grow (putRow (Value.int .i64) (Sort.ahead w n) g o ys.toArray) os).heap[b]? = (w.heap.modify g (onCells (putCells (Value.int .i64) o ys.toArray)))[b]? := fun b hb => by
    rw [heap_grow_old _ _ (by simpa using hb)]
    rfl
  refine ⟨⟨some ⟨g, o, none⟩, cap, by rw [hl], by rw [hl]; exact h1, h2, .inr ⟨g, o, putCells (Value.int .i64) o ys.toArray c, rfl, l1, l2, ?_, fun k hk => ?_⟩⟩, ?_⟩
  · have h6 := hold g hlt
    rw [Array.getElem?_modify, if_pos rfl, hg] at h6
    exact h6
  · have hk' : k < xs.length := by rw [← hl]; exact hk
    have h5 := hc k hk'
    have e : ix ys k = ys.toArray[k]! := by rw [ix_eq hk]; simp [hk]
    rw [e]
    have hlc : o + k < c.size := (Array.getElem?_eq_some_iff.1 h5).1
    simp [putCells, hlc, hk]
  · refine ⟨rfl, rfl, rfl, by simp, fun b hb hS => ?_⟩
    have hbg : ¬ g = b := fun e => hS ⟨hne, e.symm⟩
    have h6 := hold b hb
    rw [Array.getElem?_modify, if_neg hbg] at h6
    exact h6

theorem sort_c (lo hi : Nat) (v : Value) (xs : List Int) (w : World) (h : Own lo hi w v xs) (hl : xs.length ≤ 1048576) :
    Calls Try.prog 89 #[v] w fun e w' => e = .returned (.tuple #[]) ∧ Own lo hi w' v (sortI xs) ∧ Upd (fun b => xs ≠ [] ∧ b = blk v) w w' := by
  obtain ⟨ao, cap, rfl, h1, h2, h3⟩ := h
  by_cases hne : xs = []
  · subst hne
    refine (Try.slices_Sort_int_none ao cap w).mono ?_
    rintro e w' ⟨rfl, rfl⟩
    exact ⟨rfl, ⟨ao, cap, by rw [sortI_nil], by rw [sortI_nil]; exact h1, h2, .inl sortI_nil⟩, Upd.refl _⟩
  · rcases h3 with h3 | ⟨g, o, c, rfl, l1, l2, hg, hc⟩
    · exact absurd h3 hne
    have hlt : g < w.heap.size := (Array.getElem?_eq_some_iff.1 hg).1
    refine (Try.slices_Sort_int g o cap xs w (own_holds hg hc) hlt (by omega)).mono ?_
    rintro e w' ⟨rfl, n, os, rfl⟩
    exact ⟨rfl, own_put hne (sortI_len xs) h1 h2 l1 l2 hg hc⟩

end Go.Proofs.Ytkkoidoinbiikaa
