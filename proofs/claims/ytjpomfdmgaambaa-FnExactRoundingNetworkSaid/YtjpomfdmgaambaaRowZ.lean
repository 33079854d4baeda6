/- Slices of ints that a call builds by append from one without room: where the new slice lies. No walk here. -/
import Derived.Test.YtjpomfdmgaambaaHold
import Derived.Laws.Append
namespace Go.Proofs.Ytjpomfdmgaambaa
open Go.RowKit

/-- the block of a slice that has room -/
def rb : Value → Option Nat
  | .slice _ _ 0 => none
  | v => v.ownBlock
/-- a slice of ints in a block of the call's own, or one without room -/
def RowZ (lo : Nat) (w : World) (v : Value) (xs : List Int) : Prop := IRow lo w v xs ∨ (xs = [] ∧ ∃ b, v = .slice b 0 0)
namespace RowZ
variable {lo : Nat} {w w' : World} {v : Value} {xs : List Int}
theorem split (h : RowZ lo w v xs) : (IRow lo w v xs ∧ rb v = v.ownBlock) ∨ (xs = [] ∧ rb v = none ∧ ∃ b, v = .slice b 0 0) := by
  rcases h with h | ⟨h1, b, rfl⟩
  · rcases h.2 with ⟨rfl, h0⟩ | ⟨g, cap, cur, rfl, hb, hg, hnc, rest⟩
    · exact .inr ⟨List.eq_nil_of_length_eq_zero h0, rfl, none, rfl⟩
    · cases cap with
      | zero => 
        have h0 : xs = [] := List.eq_nil_of_length_eq_zero (by omega)
        subst h0
        exact .inr ⟨rfl, rfl, _, rfl⟩
      | succ c => exact .inl ⟨h, rfl⟩
  · exact .inr ⟨h1, rfl, b, rfl⟩
theorem row (h : RowZ lo w v xs) (hx : xs ≠ []) : IRow lo w v xs := by
  rcases h with h | ⟨h1, _⟩
  · exact h
  · exact absurd h1 hx
theorem blk (h : RowZ lo w v xs) {b : Nat} (hb : rb v = some b) : lo ≤ b ∧ b < w.heap.size := by
  rcases h.split with ⟨h1, h2⟩ | ⟨_, h2, _⟩
  · exact h1.blk (h2 ▸ hb)
  · rw [h2] at hb; cases hb
theorem upd {S : Nat → Prop} (h : RowZ lo w v xs) (u : Upd S w w') (hs : ∀ b, rb v = some b → ¬ S b) : RowZ lo w' v xs := by
  rcases h.split with ⟨h1, h2⟩ | ⟨h1, _, h3⟩
  · exact .inl (h1.upd u (fun b hb => hs b (h2 ▸ hb)))
  · exact .inr ⟨h1, h3⟩
theorem ext (h : RowZ lo w v xs) (u : Ext w w') : RowZ lo w' v xs := h.upd u (fun _ _ s => s)
theorem put (h : RowZ lo w v xs) {a : Addr} (ha : a.block < lo) (x : Value) : RowZ lo (w.setCell a x) v xs :=
  h.upd (S := fun b => b = a.block) ((Upd.refl w).setCell x (fun _ => rfl)) (fun b hb e => by have := (h.blk hb).1; omega)
theorem form (h : RowZ lo w v xs) : ∃ a c, v = .slice a xs.length c := by
  rcases h with h | ⟨h1, b, rfl⟩
  · exact h.form
  · subst h1; exact ⟨b, 0, rfl⟩
end RowZ
theorem rb_own {g n cap : Nat} {b : Nat} (h : rb (.slice (some ⟨g, 0, none⟩) n cap) = some b) : b = g := by
  cases cap with
  | zero => cases h
  | succ c => simpa [rb, Value.ownBlock, eq_comm] using h

theorem run_append_cap0 {P : Program} (w : World) (t ty e : TypeId) (i : TypeInfo) (z : Value) (ht : P.underlying t = some (.slice e)) (hi : P.info? e = some i) (hz : i.zero = some z) (hsz : i.size = 1) (b : Option Addr)
    (a : Addr) (c : Nat) (u : Value) (hu : w.cell? (a.add 0) = some u) (hb : i.bytes ≤ 281474976710656) :
    (Builtin.append_ #[t, t] ty #[.slice b 0 0, .slice (some a) 1 c]).run P w = (Builtin.append_ #[t, t] ty #[.slice none 0 0, .slice (some a) 1 c]).run P w := by
  cases b with
  | none => rfl
  | some b =>
    have hn : ∀ j v, [u][j]? = some v → w.cell? (a.add j) = some v := fun j v hj => by
      cases j with
      | zero => simp at hj; rw [← hj]; exact hu
      | succ j => simp at hj
    rw [run_append_grow w t ty e i z ht hi hz b 0 0 [] (by simp) (fun j v hj => by simp at hj) a 1 c [u] (by simp [hsz]) hn (by omega) (by omega) (by rw [show Builtin.nextslicecap (0 + 1) 0 = 1 from rfl]; omega),
      run_append_nil w t ty e i z ht hi hz a 1 c [u] (by simp [hsz]) hn (by omega) (by omega) (by omega)]
    simp

section
variable {P : Program} (w : World)
theorem run_appZ (t ty : TypeId) (lo : Nat) (z : Value) (bytes : Nat) (ht : P.underlying t = some (.slice 3))
    (hinfo : (P.info? 3).map (fun i => (i.zero, i.size, i.bytes)) = some (some z, 1, bytes)) (hzs : z.cells.size = 1)
    (v : Value) (xs : List Int) (hown : RowZ lo w v xs) (B c T : Nat) (x : Int) (hb : Box w B T #[.int .i64 x])
    (hn : xs.length < 9223372036854775807) (hbytes : (xs.length + 1) * bytes ≤ 140737488355328) (hlo : lo ≤ w.heap.size) :
    ∃ g cap w', (Builtin.append_ #[t, t] ty #[v, .slice (some ⟨B, 0, none⟩) 1 c]).run P w = .ok (.slice (some ⟨g, 0, none⟩) (xs.length + 1) cap) w' ∧
      IRow lo w' (.slice (some ⟨g, 0, none⟩) (xs.length + 1) cap) (xs ++ [x]) ∧ w.grownBy w' (rb v) ∧ (rb v = some g ∨ g = w.heap.size) ∧ g < w'.heap.size := by
  obtain ⟨i, hi, hz0, hz1, hz2⟩ := info_parts hinfo
  have h1 : ∀ y ∈ [Value.int .i64 x], y.oneCell' = true := by intro y hy; simp at hy; subst hy; rfl
  rcases hown.split with ⟨h, e⟩ | ⟨rfl, e, b, rfl⟩
  · obtain ⟨g, cap, w', hr, h2, h3, h4, h5⟩ := run_append_lies (P := P) w t ty lo 3 i z 1 bytes ht hi hz0 hz1 hz2 hzs (by omega) v xs.length (xs.map (Value.int .i64)) h ⟨B, 0, none⟩ 1 c [.int .i64 x] rfl (World.news_of_block hb) h1
      (by omega) (by simp [maxLen]; omega) hbytes hlo w.heap.size rfl
    exact ⟨g, cap, w', hr, IRow.push h2, e ▸ h3, e ▸ h4, h5⟩
  · obtain ⟨g, cap, w', hr, h2, h3, h4, h5⟩ := run_append_lies (P := P) w t ty lo 3 i z 1 bytes ht hi hz0 hz1 hz2 hzs (by omega) (.slice none 0 0) 0 [] (World.ownsRow_nil _ _ _ _) ⟨B, 0, none⟩ 1 c [.int .i64 x] rfl (World.news_of_block hb) h1
      (by omega) (by simp [maxLen]) hbytes hlo w.heap.size rfl
    refine ⟨g, cap, w', ?_, IRow.push (xs := []) h2, e ▸ h3, e ▸ h4, h5⟩
    rw [run_append_cap0 w t ty 3 i z ht hi hz0 hz1 b ⟨B, 0, none⟩ c (.int .i64 x) (World.news_of_block hb 0 _ rfl) (by simp only [List.length_nil] at hbytes; omega)]
    exact hr
theorem wp_appZ {o : Oper} {a : Act} {K : Act → World → Prop} {Q : Exit → Act → World → Prop} (s x : Operand) (t : TypeId)
    (ho : o.op = .call { callee := .builtin .append, args := #[s, x], argTypes := #[t, t] }) (lo : Nat) (z : Value) (bytes : Nat) (ht : P.underlying t = some (.slice 3))
    (hinfo : (P.info? 3).map (fun i => (i.zero, i.size, i.bytes)) = some (some z, 1, bytes)) (hzs : z.cells.size = 1)
    (v : Value) (n : Nat) (xs : List Int) (hs : a.eval s = v) (hown : RowZ lo w v xs) (hl : xs.length = n) (B c T : Nat) (y : Int) (hx : a.eval x = .slice (some ⟨B, 0, none⟩) 1 c) (hb : Box w B T #[.int .i64 y])
    (hn : n < 9223372036854775807) (hbytes : (n + 1) * bytes ≤ 140737488355328) (hlo : lo ≤ w.heap.size)
    (h : ∀ g cap w', IRow lo w' (.slice (some ⟨g, 0, none⟩) (n + 1) cap) (xs ++ [y]) → w.grownBy w' (rb v) → (rb v = some g ∨ g = w.heap.size) → g < w'.heap.size → K (a.put o.dst (.slice (some ⟨g, 0, none⟩) (n + 1) cap)) w') : o.wp P a w K Q := by
  subst hl
  obtain ⟨g, cap, w', hr, h2, h3, h4, h5⟩ := run_appZ (P := P) w t o.type lo z bytes ht hinfo hzs v xs hown B c T y hb hn hbytes hlo
  unfold Oper.wp execOp
  simp only [ho, resolve, invoke, builtin, Sem.run_bind, Sem.run_pure, Result.andThen_ok, List.map_toArray, List.map_cons, List.map_nil, hs, hx, hr]
  exact h g cap w' h2 h3 h4 h5
theorem appZ {ops : Array Oper} {rest : List Oper} {o : Oper} {a : Act} {Q : Exit → Act → World → Prop} (hgd : o.guard = none) (s x : Operand) (t : TypeId)
    (ho : o.op = .call { callee := .builtin .append, args := #[s, x], argTypes := #[t, t] }) (lo : Nat) (z : Value) (bytes : Nat) (ht : P.underlying t = some (.slice 3))
    (hinfo : (P.info? 3).map (fun i => (i.zero, i.size, i.bytes)) = some (some z, 1, bytes)) (hzs : z.cells.size = 1)
    (v : Value) (n : Nat) (xs : List Int) (hs : a.eval s = v) (hown : RowZ lo w v xs) (hl : xs.length = n) (B c T : Nat) (y : Int) (hx : a.eval x = .slice (some ⟨B, 0, none⟩) 1 c) (hb : Box w B T #[.int .i64 y])
    (hn : n < 9223372036854775807) (hbytes : (n + 1) * bytes ≤ 140737488355328) (hlo : lo ≤ w.heap.size)
    (h : ∀ g cap w', IRow lo w' (.slice (some ⟨g, 0, none⟩) (n + 1) cap) (xs ++ [y]) → w.grownBy w' (rb v) → (rb v = some g ∨ g = w.heap.size) → g < w'.heap.size → wpList P ops Q rest (a.put o.dst (.slice (some ⟨g, 0, none⟩) (n + 1) cap)) w') : wpList P ops Q (o :: rest) a w :=
  wpList_plain hgd fun _ hK => wp_appZ w s x t ho lo z bytes ht hinfo hzs v n xs hs hown hl B c T y hx hb hn hbytes hlo fun g cap w' h2 h3 h4 h5 => hK _ _ (h g cap w' h2 h3 h4 h5)
theorem appZs {ops : Array Oper} {o : Oper} {a : Act} {K : Act → World → Prop} {Q : Exit → Act → World → Prop} {E : Prop} (hgd : o.guard = none) (s x : Operand) (t : TypeId)
    (ho : o.op = .call { callee := .builtin .append, args := #[s, x], argTypes := #[t, t] }) (lo : Nat) (z : Value) (bytes : Nat) (ht : P.underlying t = some (.slice 3))
    (hinfo : (P.info? 3).map (fun i => (i.zero, i.size, i.bytes)) = some (some z, 1, bytes)) (hzs : z.cells.size = 1)
    (v : Value) (n : Nat) (xs : List Int) (hs : a.eval s = v) (hown : RowZ lo w v xs) (hl : xs.length = n) (B c T : Nat) (y : Int) (hx : a.eval x = .slice (some ⟨B, 0, none⟩) 1 c) (hb : Box w B T #[.int .i64 y])
    (hn : n < 9223372036854775807) (hbytes : (n + 1) * bytes ≤ 140737488355328) (hlo : lo ≤ w.heap.size)
    (h : ∀ g cap w', IRow lo w' (.slice (some ⟨g, 0, none⟩) (n + 1) cap) (xs ++ [y]) → w.grownBy w' (rb v) → (rb v = some g ∨ g = w.heap.size) → g < w'.heap.size → K (a.put o.dst (.slice (some ⟨g, 0, none⟩) (n + 1) cap)) w') :
    if Region.wanted o (yielded ops a.tmps) = true then Oper.wp P o a w K Q else E := by
  have hw : Region.wanted o (yielded ops a.tmps) = true := by simp [Region.wanted, hgd]
  rw [if_pos hw]
  exact wp_appZ w s x t ho lo z bytes ht hinfo hzs v n xs hs hown hl B c T y hx hb hn hbytes hlo h
end
end Go.Proofs.Ytjpomfdmgaambaa
