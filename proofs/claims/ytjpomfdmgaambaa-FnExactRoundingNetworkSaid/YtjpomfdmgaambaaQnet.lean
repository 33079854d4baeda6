/- The network of an attack, the spec's: qNetwork. -/
import Derived.Test.YtjpomfdmgaambaaAtk
import Derived.Test.YtjpomfdmgaambaaNet
import Derived.Deep.CutRange
namespace Go.Proofs.Ytjpomfdmgaambaa
open Go.RowKit

/-- two slices of ints that grow side by side in blocks of their own -/
structure Two (wM wr : World) (a b : Value) (xs ys : List Int) : Prop where
  ra : IRow wM.heap.size wr a xs
  rb : IRow wM.heap.size wr b ys
  d : ∀ c, a.ownBlock = some c → b.ownBlock ≠ some c
  ext : Ext wM wr
namespace Two
variable {wM wr wb w3 : World} {a b : Value} {xs ys : List Int} {g n cp : Nat} {x : Int}
theorem nil (w : World) : Two w w (.slice none 0 0) (.slice none 0 0) [] [] := ⟨IRow.nil, IRow.nil, fun c h => by simp [Value.ownBlock] at h, Ext.refl w⟩
theorem ext' (h : Two wM wr a b xs ys) (E : Ext wr wb) : Two wM wb a b xs ys := ⟨h.ra.ext E, h.rb.ext E, h.d, h.ext.trans E⟩
theorem addA (h : Two wM wb a b xs ys) (hn : xs.length = n) (hg : wb.grownBy w3 a.ownBlock) (hat : a.ownBlock = some g ∨ g = wb.heap.size)
    (hown : w3.ownsRow wM.heap.size 3 1 (.slice (some ⟨g, 0, none⟩) (n + 1) cp) (n + 1) (xs.map (Value.int .i64) ++ [.int .i64 x])) : Two wM w3 (.slice (some ⟨g, 0, none⟩) (n + 1) cp) b (xs ++ [x]) ys :=
  ⟨IRow.push (by rw [hn]; exact hown), h.rb.keepInts hg h.d, fun c e => by
    simp only [Value.ownBlock, Option.some.injEq] at e
    subst e
    rcases hat with e | e
    · exact h.d _ e
    · intro e2; have := (h.rb.blk e2).2; omega, h.ra.grew h.ext (Nat.le_refl _) hg⟩
theorem swap (h : Two wM wr a b xs ys) : Two wM wr b a ys xs := ⟨h.rb, h.ra, fun c e e2 => h.d c e2 e, h.ext⟩
end Two

end Go.Proofs.Ytjpomfdmgaambaa
