/- The blocks of what a call owns, and that they are apart. -/
import Derived.Test.YtodnkahnbidgaaaSz
namespace Go.Proofs.Ytodnkahnbidgaaa
open Go.RowKit
def IB (v : Value) (xs : List Int) (b : Nat) : Prop := xs ≠ [] ∧ b = blk v
def GB (v : Value) (rvs : List Value) (xss : List (List Int)) (b : Nat) : Prop := (xss ≠ [] ∧ b = blk v) ∨ rowBlks rvs xss b
def Apart (A B : Nat → Prop) : Prop := ∀ b, A b → B b → False
variable {lo hi : Nat} {w w' : World} {v : Value} {rvs : List Value} {xs ys : List Int} {xss yss : List (List Int)} {S : Nat → Prop} {b : Nat}
theorem Apart.symm {A B : Nat → Prop} (h : Apart A B) : Apart B A := fun b h1 h2 => h b h2 h1
theorem Own.inside (h : Own lo hi w v xs) (hb : IB v xs b) : lo ≤ b ∧ b < hi ∧ b < w.heap.size := by rw [hb.2]; exact h.range hb.1
theorem OwnG.inside (h : OwnG lo hi w v rvs xss) (hb : GB v rvs xss b) : lo ≤ b ∧ b < hi ∧ b < w.heap.size := by
  rcases hb with ⟨h1, rfl⟩ | h1
  · obtain ⟨ao, cap, rfl, _, _, h3⟩ := h
    exact h3.range h1
  · exact h.blks h1
theorem Own.keepB (h : Own lo hi w v xs) (u : Upd S w w') (hs : ∀ b, IB v xs b → ¬ S b) : Own lo hi w' v xs := h.upd u (fun hne => hs _ ⟨hne, rfl⟩)
theorem OwnG.keepB (h : OwnG lo hi w v rvs xss) (u : Upd S w w') (hs : ∀ b, GB v rvs xss b → ¬ S b) : OwnG lo hi w' v rvs xss :=
  h.upd u (fun hx => hs _ (.inl ⟨hx, rfl⟩)) (fun k hk hr => hs _ (.inr ⟨k, hk, hr, rfl⟩))
theorem IB.of_len (h : ys.length = xs.length) (hb : IB v ys b) : IB v xs b :=
  ⟨fun e => hb.1 (List.eq_nil_of_length_eq_zero (by rw [h, e]; rfl)), hb.2⟩
theorem GB.of_marked {k0 : Int} (h : MarkedG k0 xss yss) (hb : GB v rvs yss b) : GB v rvs xss b := by
  rcases hb with ⟨h1, h2⟩ | ⟨k, hk, hr, e⟩
  · exact .inl ⟨fun e => h1 (List.eq_nil_of_length_eq_zero (by rw [h.1, e]; rfl)), h2⟩
  · rw [h.1] at hk
    refine .inr ⟨k, hk, fun e2 => hr ?_, e⟩
    rw [h.2 k hk, e2]; rfl
end Go.Proofs.Ytodnkahnbidgaaa
