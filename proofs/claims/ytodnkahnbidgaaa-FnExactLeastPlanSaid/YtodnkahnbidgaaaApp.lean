/- Slices of ints that a call builds by append. -/
import Derived.Test.YtodnkahnbidgaaaCell
import Derived.Deep.RegionHeld3
import Derived.Deep.AppendLies
namespace Go.Proofs.Ytodnkahnbidgaaa
open Go.RowKit

/-- a slice of ints in a block of the call's own, or none -/
def IRow (lo : Nat) (w : World) (v : Value) (xs : List Int) : Prop := w.ownsRow lo 3 1 v xs.length (xs.map (Value.int .i64))
namespace IRow
variable {lo hi : Nat} {w w' : World} {v : Value} {xs : List Int}
theorem nil : IRow lo w (.slice none 0 0) [] := World.ownsRow_nil _ _ _ _
theorem own (h : IRow lo w v xs) (hh : w.heap.size ≤ hi) : Own lo hi w v xs := Own.of_ownsRow h hh
theorem ext (h : IRow lo w v xs) (u : Ext w w') : IRow lo w' v xs :=
  World.ownsRow.kept h (w' := w') (row := none) ⟨u.os, u.tape, u.output, u.size, fun k hk _ => u.block hk⟩ (by cases v.ownBlock <;> simp)
theorem push {x : Int} {v' : Value} (h : w.ownsRow lo 3 1 v' (xs.length + 1) (xs.map (Value.int .i64) ++ [Value.int .i64 x])) : IRow lo w v' (xs ++ [x]) := by
  have : IRow lo w v' (xs ++ [x]) = w.ownsRow lo 3 1 v' (xs.length + 1) (xs.map (Value.int .i64) ++ [Value.int .i64 x]) := by simp [IRow]
  rw [this]; exact h
theorem blk (h : IRow lo w v xs) {b : Nat} (hb : v.ownBlock = some b) : lo ≤ b ∧ b < w.heap.size := World.ownsRow.lt h b hb
theorem form (h : IRow lo w v xs) : ∃ a c, v = .slice a xs.length c := by
  rcases h.2 with ⟨h1, h2⟩ | ⟨g, cp, cur, h1, _⟩
  · exact ⟨none, 0, by rw [h1, h2]⟩
  · exact ⟨_, _, h1⟩
/-- a cell of a block below lo is as it was behind an append -/
theorem far (h : IRow lo w v xs) (hg : w.grownBy w' v.ownBlock) {a : Addr} {u : Value} (ha : a.block < lo) (hc : w.cell? a = some u) : w'.cell? a = some u := by
  have hlt := World.block_lt_of_cell? w _ hc
  rw [hg.cell_far _ hlt (fun e => by have := (h.blk e.symm).1; omega)]; exact hc
theorem box (h : IRow lo w v xs) (hg : w.grownBy w' v.ownBlock) {b T : Nat} {vs : Array Value} (hb : b < lo) (hx : Box w b T vs) : Box w' b T vs :=
  hx.upd (Upd.of_grown hg) (fun e => by have := (h.blk e).1; omega)
theorem grew {u : World} (h : IRow lo w v xs) (hx : Ext u w) (hlo : u.heap.size ≤ lo) (hg : w.grownBy w' v.ownBlock) : Ext u w' :=
  hx.of_upd (Upd.of_grown hg) (fun b hb => by have := (h.blk hb).1; omega)
end IRow

/-- appending one element, in a region that draws its order -/
theorem app1s {P : Program} {ops : Array Oper} {o : Oper} {a : Act} {K : Act → World → Prop} {Q : Exit → Act → World → Prop} {E : Prop} (w : World) (hgd : o.guard = none) (s x : Operand) (t e : TypeId)
    (ho : o.op = .call { callee := .builtin .append, args := #[s, x], argTypes := #[t, t] }) (z : Value) (bytes : Nat) (ht : P.underlying t = some (.slice e))
    (hinfo : (P.info? e).map (fun i => (i.zero, i.size, i.bytes)) = some (some z, 1, bytes)) (hzs : z.cells.size = 1)
    (lo : Nat) (v : Value) (n : Nat) (xs : List Value) (hs : a.eval s = v) (hown : w.ownsRow lo e 1 v n xs) (B c T : Nat) (u : Value) (hx : a.eval x = .slice (some ⟨B, 0, none⟩) 1 c) (hb : Box w B T #[u]) (hu : u.oneCell' = true)
    (hn : n < 9223372036854775807) (hbytes : (n + 1) * bytes ≤ 140737488355328) (hlo : lo ≤ w.heap.size)
    (h : ∀ g cap w', w'.ownsRow lo e 1 (.slice (some ⟨g, 0, none⟩) (n + 1) cap) (n + 1) (xs ++ [u]) → w.grownBy w' v.ownBlock → (v.ownBlock = some g ∨ g = w.heap.size) → g < w'.heap.size →
      K (a.put o.dst (.slice (some ⟨g, 0, none⟩) (n + 1) cap)) w') : if Region.wanted o (yielded ops a.tmps) = true then Oper.wp P o a w K Q else E := by
  obtain ⟨i, hi, hz0, hz1, hz2⟩ := info_parts hinfo
  exact step_append_lies w hgd s x t ho lo e i z 1 bytes ht hi hz0 hz1 hz2 hzs (by omega) v n xs hs hown ⟨B, 0, none⟩ 1 c [u] hx rfl (World.news_of_block hb) (by intro y hy; simp at hy; subst hy; exact hu)
    (by omega) (by simp [maxLen]; omega) hbytes hlo w.heap.size rfl h
end Go.Proofs.Ytodnkahnbidgaaa
