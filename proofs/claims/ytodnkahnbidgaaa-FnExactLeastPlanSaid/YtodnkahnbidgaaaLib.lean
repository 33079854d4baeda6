/- What the contracts of this claim are stated with: readings of slices of ints and of slices of such slices, and how a world goes on. No program in sight. -/
import Derived.WalkKit
import Derived.Deep.QuietTactic
import Derived.BigQuiet
import Derived.Deep.OwnRows
import Derived.Lib.Hide
import Derived.Deep.AppendLies
import Derived.KernelRfl
namespace Go.Proofs.Ytodnkahnbidgaaa
open Go.RowKit

/-! ### Lists by their index -/
def ix (xs : List Int) (k : Nat) : Int := xs.getD k 0
def rowAt (xss : List (List Int)) (k : Nat) : List Int := xss.getD k []
def rvAt (rvs : List Value) (k : Nat) : Value := rvs.getD k undef
def ablk : Option Addr → Nat
  | some a => a.block
  | none => 0
def blk : Value → Nat
  | .slice ao _ _ => ablk ao
  | _ => 0

theorem ix_eq {xs : List Int} {k : Nat} (h : k < xs.length) : ix xs k = xs[k] := by simp [ix, List.getD, h]
theorem ix_mem {xs : List Int} {k : Nat} (h : k < xs.length) : ix xs k ∈ xs := by rw [ix_eq h]; exact List.getElem_mem h
theorem rowAt_eq {xs : List (List Int)} {k : Nat} (h : k < xs.length) : rowAt xs k = xs[k] := by simp [rowAt, List.getD, h]
theorem rowAt_mem {xs : List (List Int)} {k : Nat} (h : k < xs.length) : rowAt xs k ∈ xs := by rw [rowAt_eq h]; exact List.getElem_mem h
theorem list_ext_ix {xs ys : List Int} (hl : xs.length = ys.length) (h : ∀ k, k < xs.length → ix xs k = ix ys k) : xs = ys := by
  apply List.ext_getElem hl
  intro i h1 h2
  have := h i h1
  rwa [ix_eq h1, ix_eq h2] at this
theorem list_ext_rowAt {xs ys : List (List Int)} (hl : xs.length = ys.length) (h : ∀ k, k < xs.length → rowAt xs k = rowAt ys k) : xs = ys := by
  apply List.ext_getElem hl
  intro i h1 h2
  have := h i h1
  rwa [rowAt_eq h1, rowAt_eq h2] at this
theorem take_succ_ix {xs : List Int} {k : Nat} (h : k < xs.length) : xs.take (k + 1) = xs.take k ++ [ix xs k] := by
  rw [ix_eq h, List.take_succ_eq_append_getElem h]
theorem take_succ_row {xs : List (List Int)} {k : Nat} (h : k < xs.length) : xs.take (k + 1) = xs.take k ++ [rowAt xs k] := by
  rw [rowAt_eq h, List.take_succ_eq_append_getElem h]
theorem ix_set {xs : List Int} {k j : Nat} {x : Int} : ix (xs.set k x) j = if j = k ∧ k < xs.length then x else ix xs j := by
  simp only [ix, List.getD, List.getElem?_set]
  by_cases h : k = j
  · subst h
    by_cases h2 : k < xs.length <;> simp [h2]
  · have h' : ¬ j = k := fun e => h e.symm
    simp [h, h']
theorem ix_append_left {xs ys : List Int} {k : Nat} (h : k < xs.length) : ix (xs ++ ys) k = ix xs k := by
  simp [ix, List.getD, List.getElem?_append_left h]
theorem rowAt_append_left {xs ys : List (List Int)} {k : Nat} (h : k < xs.length) : rowAt (xs ++ ys) k = rowAt xs k := by
  simp [rowAt, List.getD, List.getElem?_append_left h]
theorem rowAt_append_len {xs : List (List Int)} {r : List Int} : rowAt (xs ++ [r]) xs.length = r := by simp [rowAt, List.getD]
theorem ix_append_len {xs : List Int} {r : Int} : ix (xs ++ [r]) xs.length = r := by simp [ix, List.getD]
theorem rvAt_append_left {xs ys : List Value} {k : Nat} (h : k < xs.length) : rvAt (xs ++ ys) k = rvAt xs k := by
  simp [rvAt, List.getD, List.getElem?_append_left h]
theorem rvAt_append_len {xs : List Value} {r : Value} : rvAt (xs ++ [r]) xs.length = r := by simp [rvAt, List.getD]
theorem rowAt_set {xs : List (List Int)} {k j : Nat} {x : List Int} : rowAt (xs.set k x) j = if j = k ∧ k < xs.length then x else rowAt xs j := by
  simp only [rowAt, List.getD, List.getElem?_set]
  by_cases h : k = j
  · subst h
    by_cases h2 : k < xs.length <;> simp [h2]
  · have h' : ¬ j = k := fun e => h e.symm
    simp [h, h']

/-- every element is an int of Go's -/
def Wf (xs : List Int) : Prop := ∀ x ∈ xs, -9223372036854775808 ≤ x ∧ x ≤ 9223372036854775807
def WfG (xss : List (List Int)) : Prop := ∀ r ∈ xss, Wf r
theorem Wf.ix {xs : List Int} (h : Wf xs) {k : Nat} (hk : k < xs.length) : -9223372036854775808 ≤ ix xs k ∧ ix xs k ≤ 9223372036854775807 := h _ (ix_mem hk)
theorem WfG.row {xs : List (List Int)} (h : WfG xs) {k : Nat} (hk : k < xs.length) : Wf (rowAt xs k) := h _ (rowAt_mem hk)

theorem ret_bool {a b : Bool} (h : a = b) : Ending.returned (.bool a) = .returned (.bool b) := by rw [h]
theorem ret_int {a b : Int} (h : a = b) : Ending.returned (.int .i64 a) = .returned (.int .i64 b) := by rw [h]

/-! ### Worlds -/
/-- w' is w with new blocks, and with writes to blocks in S alone -/
structure Upd (S : Nat → Prop) (w w' : World) : Prop where
  os : w'.os = w.os
  tape : w'.tape = w.tape
  output : w'.output = w.output
  size : w.heap.size ≤ w'.heap.size
  block : ∀ k, k < w.heap.size → ¬ S k → w'.heap[k]? = w.heap[k]?
def None' : Nat → Prop := fun _ => False
/-- w' is w with new blocks -/
def Ext (w w' : World) : Prop := Upd None' w w'

namespace Upd
variable {S T : Nat → Prop} {w w' w'' : World}
theorem refl (w : World) : Upd S w w := ⟨rfl, rfl, rfl, Nat.le_refl _, fun _ _ _ => rfl⟩
theorem trans (h : Upd S w w') (k : Upd S w' w'') : Upd S w w'' :=
  ⟨k.os.trans h.os, k.tape.trans h.tape, k.output.trans h.output, Nat.le_trans h.size k.size,
    fun i hi hs => (k.block i (Nat.lt_of_lt_of_le hi h.size) hs).trans (h.block i hi hs)⟩
theorem mono (h : Upd S w w') (hs : ∀ k, k < w.heap.size → S k → T k) : Upd T w w' := ⟨h.os, h.tape, h.output, h.size, fun k hk hn => h.block k hk (fun s => hn (hs k hk s))⟩
theorem drew (h : Upd S w w') : Upd S w w'.drew := ⟨h.os, h.tape, h.output, h.size, h.block⟩
theorem drewN (h : Upd S w w') (n : Nat) : Upd S w (w'.drewN n) := ⟨h.os, h.tape, h.output, h.size, h.block⟩
theorem alloc (h : Upd S w w') (o : Obj) : Upd S w (w'.alloc o) :=
  h.trans ⟨rfl, rfl, rfl, by simp, fun k hk _ => Below.heap_alloc _ _ _ hk⟩
theorem setCell (h : Upd S w w') {a : Addr} (u : Value) (ha : a.block < w.heap.size → S a.block) : Upd S w (w'.setCell a u) :=
  ⟨h.os, h.tape, h.output, by simp [World.setCell]; exact h.size, fun k hk hs => by
    rw [Below.heap_setCell _ _ _ _ (fun e => hs (by rw [e] at hk ⊢; exact ha hk))]; exact h.block k hk hs⟩
theorem grown (h : Upd S w w') {row : Option Nat} (hg : w'.grownBy w'' row) (hr : ∀ k, row = some k → k < w.heap.size → S k) : Upd S w w'' :=
  ⟨hg.os.trans h.os, hg.tape.trans h.tape, hg.output.trans h.output, Nat.le_trans h.size hg.size,
    fun k hk hs => (hg.block k (Nat.lt_of_lt_of_le hk h.size) (fun e => hs (hr k e.symm hk))).trans (h.block k hk hs)⟩
theorem cell (h : Upd S w w') {a : Addr} {v : Value} (hc : w.cell? a = some v) (hs : ¬ S a.block) : w'.cell? a = some v :=
  (World.cell?_of_block (h.block a.block (World.block_lt_of_cell? w a hc) hs)).trans hc
theorem below (h : Upd S w w') {B : Nat} (hB : B ≤ w.heap.size) (hs : ∀ k, k < w.heap.size → S k → B ≤ k) : Below B w w' :=
  ⟨h.os, h.tape, h.output, h.size, fun k hk => h.block k (by omega) (fun s => by have := hs k (by omega) s; omega)⟩
end Upd

theorem cell_far {w : World} {a b : Addr} {v : Value} (h : b.block ≠ a.block) : (w.setCell a v).cell? b = w.cell? b := World.cell?_of_block (Below.heap_setCell _ _ _ _ h)

theorem cell_far_drew {w : World} {a b : Addr} {v : Value} (h : b.block ≠ a.block) : ((w.setCell a v).drew).cell? b = w.cell? b := cell_far h

namespace Ext
variable {S : Nat → Prop} {w w' w'' : World}
theorem refl (w : World) : Ext w w := Upd.refl w
theorem trans (h : Ext w w') (k : Ext w' w'') : Ext w w'' := Upd.trans h k
theorem upd (h : Ext w w') : Upd S w w' := Upd.mono h (fun _ _ s => s.elim)
theorem drew (h : Ext w w') : Ext w w'.drew := Upd.drew h
theorem drewN (h : Ext w w') (n : Nat) : Ext w (w'.drewN n) := Upd.drewN h n
theorem alloc (h : Ext w w') (o : Obj) : Ext w (w'.alloc o) := Upd.alloc h o
theorem setCell (h : Ext w w') {a : Addr} (u : Value) (ha : w.heap.size ≤ a.block) : Ext w (w'.setCell a u) := Upd.setCell h u (fun hl => by omega)
theorem grown (h : Ext w w') {row : Option Nat} (hg : w'.grownBy w'' row) (hr : ∀ k, row = some k → w.heap.size ≤ k) : Ext w w'' :=
  Upd.grown h hg (fun k e hk => by have := hr k e; omega)
theorem cell (h : Ext w w') {a : Addr} {v : Value} (hc : w.cell? a = some v) : w'.cell? a = some v := Upd.cell h hc (fun s => s)
theorem block (h : Ext w w') {k : Nat} (hk : k < w.heap.size) : w'.heap[k]? = w.heap[k]? := Upd.block h k hk (fun s => s)
theorem size (h : Ext w w') : w.heap.size ≤ w'.heap.size := Upd.size h
theorem below (h : Ext w w') : Below w.heap.size w w' := Upd.below h (Nat.le_refl _) (fun _ _ s => s.elim)
theorem then_upd (h : Ext w w') (k : Upd S w' w'') : Upd S w w'' := Upd.trans h.upd k
/-- what is written to lies beyond what was there: it is an extension all the same -/
theorem of_upd (h : Ext w w') (k : Upd S w' w'') (hs : ∀ b, S b → w.heap.size ≤ b) : Ext w w'' :=
  ⟨k.os.trans h.os, k.tape.trans h.tape, k.output.trans h.output, Nat.le_trans (Upd.size h) k.size,
    fun i hi _ => (k.block i (Nat.lt_of_lt_of_le hi (Upd.size h)) (fun s => by have := hs i s; omega)).trans (Upd.block h i hi (fun s => s))⟩
end Ext

/-- w' is w after some draws -/
def Drew (w w' : World) : Prop := ∃ n, w' = w.drewN n
namespace Drew
variable {w w' w'' : World}
theorem refl (w : World) : Drew w w := ⟨0, rfl⟩
theorem drewN (h : Drew w w') (n : Nat) : Drew w (w'.drewN n) := by obtain ⟨m, rfl⟩ := h; exact ⟨m + n, by simp⟩
theorem trans (h : Drew w w') (k : Drew w' w'') : Drew w w'' := by obtain ⟨n, rfl⟩ := k; exact h.drewN n
theorem cell (h : Drew w w') {a : Addr} {v : Value} (hc : w.cell? a = some v) : w'.cell? a = some v := by obtain ⟨n, rfl⟩ := h; exact hc
theorem ext (h : Drew w w') : Ext w w' := by obtain ⟨n, rfl⟩ := h; exact (Ext.refl w).drewN n
end Drew

/-! ### Variables in memory -/
/-- block b holds the cells vs, of type T, and may be written -/
def Box (w : World) (b : Nat) (T : TypeId) (vs : Array Value) : Prop := w.heap[b]? = some (.cells vs T (0, 0))
namespace Box
variable {w w' : World} {b : Nat} {T : TypeId} {vs : Array Value}
theorem new (w : World) (T : TypeId) (vs : Array Value) (hb : b = w.heap.size) : Box (w.alloc (.cells vs T)) b T vs := by subst hb; exact Go.Deep.blk_alloc_new _ _
theorem lt (h : Box w b T vs) : b < w.heap.size := (Array.getElem?_eq_some_iff.1 h).1
theorem ext (h : Box w b T vs) (u : Ext w w') : Box w' b T vs := (u.block h.lt).trans h
theorem alloc (h : Box w b T vs) (o : Obj) : Box (w.alloc o) b T vs := h.ext ((Ext.refl w).alloc o)
theorem upd {S : Nat → Prop} (h : Box w b T vs) (u : Upd S w w') (hs : ¬ S b) : Box w' b T vs := (Upd.block u b h.lt hs).trans h
theorem cell (h : Box w b T vs) (i : Nat) (hi : i < vs.size) : w.cell? ⟨b, i, none⟩ = some (vs[i]'hi) := by
  have h' : w.heap[b]? = some (.cells vs T (0, 0)) := h
  simp [World.cell?, h', hi]
theorem free (h : Box w b T vs) (i : Nat) : w.frozen? ⟨b, i, none⟩ = false := by
  have h' : w.heap[b]? = some (.cells vs T (0, 0)) := h
  simp [World.frozen?, h']
theorem set (h : Box w b T vs) (i : Nat) (v : Value) : Box (w.setCell ⟨b, i, none⟩ v) b T (vs.setIfInBounds i v) := by
  have h' : w.heap[b]? = some (.cells vs T (0, 0)) := h
  simp [Box, World.setCell, Array.getElem?_modify, h']
theorem setOther (h : Box w b T vs) {a : Addr} (ha : b ≠ a.block) (v : Value) : Box (w.setCell a v) b T vs := (Go.Deep.blk_setCell_other _ _ _ _ ha).trans h
theorem drew (h : Box w b T vs) : Box w.drew b T vs := h
theorem drewN (h : Box w b T vs) (n : Nat) : Box (w.drewN n) b T vs := h
end Box

/-! ### Slices of ints -/
/-- at the address ao the ints xs are read -/
def IntsA (w : World) (ao : Option Addr) (xs : List Int) : Prop :=
  ∀ k, k < xs.length → ∃ b o, ao = some ⟨b, o, none⟩ ∧ w.cell? ⟨b, o + k, none⟩ = some (.int .i64 (ix xs k))
/-- the slice value v reads as xs -/
def Ints (w : World) (v : Value) (xs : List Int) : Prop :=
  ∃ ao cap, v = .slice ao xs.length cap ∧ xs.length ≤ cap ∧ cap ≤ 9223372036854775807 ∧ IntsA w ao xs

theorem IntsA.upd {S : Nat → Prop} {w w' : World} {ao : Option Addr} {xs : List Int} (h : IntsA w ao xs) (u : Upd S w w') (hs : xs ≠ [] → ¬ S (ablk ao)) : IntsA w' ao xs := by
  intro k hk
  obtain ⟨b, o, rfl, hc⟩ := h k hk
  exact ⟨b, o, rfl, u.cell hc (hs (by intro e; subst e; simp at hk))⟩
theorem IntsA.ext {w w' : World} {ao : Option Addr} {xs : List Int} (h : IntsA w ao xs) (u : Ext w w') : IntsA w' ao xs := h.upd u (fun _ s => s)
theorem Ints.upd {S : Nat → Prop} {w w' : World} {v : Value} {xs : List Int} (h : Ints w v xs) (u : Upd S w w') (hs : xs ≠ [] → ¬ S (blk v)) : Ints w' v xs := by
  obtain ⟨ao, cap, rfl, h1, h2, h3⟩ := h
  exact ⟨ao, cap, rfl, h1, h2, h3.upd u hs⟩
theorem Ints.ext {w w' : World} {v : Value} {xs : List Int} (h : Ints w v xs) (u : Ext w w') : Ints w' v xs := h.upd u (fun _ s => s)
theorem Ints.drewN {w : World} {v : Value} {xs : List Int} (h : Ints w v xs) (n : Nat) : Ints (w.drewN n) v xs := h
theorem Ints.nil (w : World) : Ints w (.slice none 0 0) [] := ⟨none, 0, rfl, Nat.le_refl _, by omega, fun k hk => by simp at hk⟩
theorem Ints.len {w : World} {v : Value} {xs : List Int} (h : Ints w v xs) : xs.length ≤ 9223372036854775807 := by
  obtain ⟨_, _, _, h1, h2, _⟩ := h; omega

/-- at the address ao the ints xs lie in a block of their own, numbered from lo on and below hi, which may be written -/
def OwnA (lo hi : Nat) (w : World) (ao : Option Addr) (xs : List Int) : Prop :=
  xs = [] ∨ ∃ g o c, ao = some ⟨g, o, none⟩ ∧ lo ≤ g ∧ g < hi ∧ w.heap[g]? = some (.cells c 3 (0, 0)) ∧ ∀ k, k < xs.length → c[o + k]? = some (.int .i64 (ix xs k))
/-- v reads as xs, and lies in a block of its own -/
def Own (lo hi : Nat) (w : World) (v : Value) (xs : List Int) : Prop :=
  ∃ ao cap, v = .slice ao xs.length cap ∧ xs.length ≤ cap ∧ cap ≤ 9223372036854775807 ∧ OwnA lo hi w ao xs

namespace OwnA
variable {lo hi lo' hi' : Nat} {S : Nat → Prop} {w w' : World} {ao : Option Addr} {xs : List Int}
theorem ints (h : OwnA lo hi w ao xs) : IntsA w ao xs := by
  intro k hk
  rcases h with h3 | ⟨g, o, c, rfl, _, _, hg, hc⟩
  · subst h3; simp at hk
  · exact ⟨g, o, rfl, by simp [World.cell?, hg, hc k hk]⟩
theorem upd (h : OwnA lo hi w ao xs) (u : Upd S w w') (hs : xs ≠ [] → ¬ S (ablk ao)) : OwnA lo hi w' ao xs := by
  rcases h with h3 | ⟨g, o, c, rfl, l1, l2, hg, hc⟩
  · exact .inl h3
  · by_cases hx : xs = []
    · exact .inl hx
    · exact .inr ⟨g, o, c, rfl, l1, l2, by rw [u.block g (Array.getElem?_eq_some_iff.1 hg).1 (hs hx)]; exact hg, hc⟩
theorem ext (h : OwnA lo hi w ao xs) (u : Ext w w') : OwnA lo hi w' ao xs := h.upd u (fun _ s => s)
theorem mono (h : OwnA lo hi w ao xs) (h1 : lo' ≤ lo) (h2 : hi ≤ hi') : OwnA lo' hi' w ao xs := by
  rcases h with h3 | ⟨g, o, c, rfl, l1, l2, hg, hc⟩
  · exact .inl h3
  · exact .inr ⟨g, o, c, rfl, by omega, by omega, hg, hc⟩
theorem range (h : OwnA lo hi w ao xs) (hx : xs ≠ []) : lo ≤ ablk ao ∧ ablk ao < hi ∧ ablk ao < w.heap.size := by
  rcases h with h3 | ⟨g, o, c, rfl, l1, l2, hg, hc⟩
  · exact absurd h3 hx
  · exact ⟨l1, l2, (Array.getElem?_eq_some_iff.1 hg).1⟩
/-- one element, where it lies, and that it may be written -/
theorem at_ (h : OwnA lo hi w ao xs) {k : Nat} (hk : k < xs.length) : ∃ b o, ao = some ⟨b, o, none⟩ ∧ lo ≤ b ∧ b < hi ∧ b < w.heap.size ∧
    w.cell? ⟨b, o + k, none⟩ = some (.int .i64 (ix xs k)) ∧ w.frozen? ⟨b, o + k, none⟩ = false := by
  rcases h with h3 | ⟨g, o, c, rfl, l1, l2, hg, hc⟩
  · subst h3; simp at hk
  · exact ⟨g, o, rfl, l1, l2, (Array.getElem?_eq_some_iff.1 hg).1, by simp [World.cell?, hg, hc k hk], by simp [World.frozen?, hg]⟩
/-- a store -/
theorem set {b o : Nat} (h : OwnA lo hi w (some ⟨b, o, none⟩) xs) {k : Nat} (hk : k < xs.length) (x : Int) :
    OwnA lo hi (w.setCell ⟨b, o + k, none⟩ (.int .i64 x)) (some ⟨b, o, none⟩) (xs.set k x) := by
  rcases h with h3 | ⟨g, o', c, hv, l1, l2, hg, hc⟩
  · subst h3; simp at hk
  · simp only [Option.some.injEq, Addr.mk.injEq, and_true] at hv
    obtain ⟨rfl, rfl⟩ := hv
    refine .inr ⟨b, o, c.setIfInBounds (o + k) (.int .i64 x), rfl, l1, l2, ?_, fun j hj => ?_⟩
    · simp [World.setCell, Array.getElem?_modify, hg]
    · have hj' : j < xs.length := by simpa using hj
      have hb : o + k < c.size := (Array.getElem?_eq_some_iff.1 (hc k hk)).1
      rw [Array.getElem?_setIfInBounds, ix_set]
      by_cases e : j = k
      · subst e; simp [hb, hk]
      · rw [if_neg (by omega), if_neg (fun h => e h.1)]; exact hc j hj'
theorem set_upd {b o k : Nat} (x : Value) (hx : xs ≠ []) : Upd (fun c => xs ≠ [] ∧ c = ablk (some ⟨b, o, none⟩)) w (w.setCell ⟨b, o + k, none⟩ x) :=
  (Upd.refl w).setCell _ (fun _ => ⟨hx, rfl⟩)
end OwnA

namespace Own
variable {lo hi lo' hi' : Nat} {S : Nat → Prop} {w w' : World} {v : Value} {xs : List Int}
theorem ints (h : Own lo hi w v xs) : Ints w v xs := by
  obtain ⟨ao, cap, rfl, h1, h2, h3⟩ := h
  exact ⟨ao, cap, rfl, h1, h2, h3.ints⟩
theorem upd (h : Own lo hi w v xs) (u : Upd S w w') (hs : xs ≠ [] → ¬ S (blk v)) : Own lo hi w' v xs := by
  obtain ⟨ao, cap, rfl, h1, h2, h3⟩ := h
  exact ⟨ao, cap, rfl, h1, h2, h3.upd u hs⟩
theorem ext (h : Own lo hi w v xs) (u : Ext w w') : Own lo hi w' v xs := h.upd u (fun _ s => s)
theorem mono (h : Own lo hi w v xs) (h1 : lo' ≤ lo) (h2 : hi ≤ hi') : Own lo' hi' w v xs := by
  obtain ⟨ao, cap, rfl, e1, e2, h3⟩ := h
  exact ⟨ao, cap, rfl, e1, e2, h3.mono h1 h2⟩
theorem range (h : Own lo hi w v xs) (hx : xs ≠ []) : lo ≤ blk v ∧ blk v < hi ∧ blk v < w.heap.size := by
  obtain ⟨ao, cap, rfl, e1, e2, h3⟩ := h
  exact h3.range hx
theorem nil : Own lo hi w (.slice none 0 0) [] := ⟨none, 0, rfl, Nat.le_refl _, by omega, .inl rfl⟩
theorem of_rowIs {g n : Nat} {f : Nat → Value} (h : w.rowIs g 3 n f) (hl : xs.length = n) (hf : ∀ j, j < n → f j = .int .i64 (ix xs j)) (l1 : lo ≤ g) (l2 : g < hi) (hn : n ≤ 9223372036854775807) :
    Own lo hi w (.slice (some ⟨g, 0, none⟩) n n) xs := by
  obtain ⟨c, hb, hs, hc⟩ := h
  refine ⟨some ⟨g, 0, none⟩, n, by rw [hl], by omega, hn, .inr ⟨g, 0, c, rfl, l1, l2, hb, fun k hk => ?_⟩⟩
  rw [Nat.zero_add, hc k (by omega), hf k (by omega)]
theorem of_ownsRow {n : Nat} (h : w.ownsRow lo 3 1 v n (xs.map (Value.int .i64))) (hh : w.heap.size ≤ hi) : Own lo hi w v xs := by
  obtain ⟨h1, h2⟩ := h
  have hn : xs.length = n := by simpa using h1
  subst hn
  rcases h2 with ⟨rfl, h0⟩ | ⟨g, cap, cur, rfl, hb, hg, hnc, hm, hs, ht⟩
  · have : xs = [] := List.eq_nil_of_length_eq_zero h0
    subst this; exact nil
  · refine ⟨some ⟨g, 0, none⟩, cap, rfl, hnc, by simpa [maxLen] using hm, .inr ⟨g, 0, cur, rfl, hb, by have := (Array.getElem?_eq_some_iff.1 hg).1; omega, hg, fun k hk => ?_⟩⟩
    have : (xs.map (Value.int .i64))[k]? = some (.int .i64 (ix xs k)) := by rw [ix_eq hk]; simp [hk]
    rw [← ht, List.getElem?_take, if_pos (by omega)] at this
    simpa using this
end Own

/-! ### Slices of slices of ints -/
def GridA (w : World) (ao : Option Addr) (xss : List (List Int)) : Prop :=
  ∀ k, k < xss.length → ∃ b o rv, ao = some ⟨b, o, none⟩ ∧ w.cell? ⟨b, o + k, none⟩ = some rv ∧ Ints w rv (rowAt xss k)
def Grid (w : World) (v : Value) (xss : List (List Int)) : Prop :=
  ∃ ao cap, v = .slice ao xss.length cap ∧ xss.length ≤ cap ∧ cap ≤ 9223372036854775807 ∧ GridA w ao xss

theorem GridA.ext {w w' : World} {ao : Option Addr} {xss : List (List Int)} (h : GridA w ao xss) (u : Ext w w') : GridA w' ao xss := by
  intro k hk
  obtain ⟨b, o, rv, rfl, hc, hi⟩ := h k hk
  exact ⟨b, o, rv, rfl, u.cell hc, hi.ext u⟩
/-- a row of a grid, and where its value stands -/
theorem GridA.at_ {w : World} {ao : Option Addr} {xss : List (List Int)} (h : GridA w ao xss) {k : Nat} (hk : k < xss.length) :
    ∃ b o ar cr, ao = some ⟨b, o, none⟩ ∧ w.cell? ⟨b, o + k, none⟩ = some (.slice ar (rowAt xss k).length cr) ∧ (rowAt xss k).length ≤ cr ∧ cr ≤ 9223372036854775807 ∧ IntsA w ar (rowAt xss k) := by
  obtain ⟨b, o, rv, rfl, hc, ar, cr, rfl, h1, h2, h3⟩ := h k hk
  exact ⟨b, o, ar, cr, rfl, hc, h1, h2, h3⟩
theorem Grid.ext {w w' : World} {v : Value} {xss : List (List Int)} (h : Grid w v xss) (u : Ext w w') : Grid w' v xss := by
  obtain ⟨ao, cap, rfl, h1, h2, h3⟩ := h
  exact ⟨ao, cap, rfl, h1, h2, h3.ext u⟩
theorem Grid.drewN {w : World} {v : Value} {xs : List (List Int)} (h : Grid w v xs) (n : Nat) : Grid (w.drewN n) v xs := h
theorem Grid.nil (w : World) : Grid w (.slice none 0 0) [] := ⟨none, 0, rfl, Nat.le_refl _, by omega, fun k hk => by simp at hk⟩
theorem Grid.len {w : World} {v : Value} {xs : List (List Int)} (h : Grid w v xs) : xs.length ≤ 9223372036854775807 := by
  obtain ⟨_, _, _, h1, h2, _⟩ := h; omega

/-- a slice of slices of ints at ao, each in a block of its own; rvs: the rows' values -/
structure OwnGA (lo hi : Nat) (w : World) (ao : Option Addr) (rvs : List Value) (xss : List (List Int)) : Prop where
  len : rvs.length = xss.length
  spine : xss = [] ∨ ∃ g o c, ao = some ⟨g, o, none⟩ ∧ lo ≤ g ∧ g < hi ∧ w.heap[g]? = some (.cells c 36 (0, 0)) ∧ ∀ k, k < xss.length → c[o + k]? = some (rvAt rvs k)
  row : ∀ k, k < xss.length → Own lo hi w (rvAt rvs k) (rowAt xss k)
  diff : ∀ j k, j < xss.length → k < xss.length → j ≠ k → rowAt xss j ≠ [] → rowAt xss k ≠ [] → blk (rvAt rvs j) ≠ blk (rvAt rvs k)
def OwnG (lo hi : Nat) (w : World) (v : Value) (rvs : List Value) (xss : List (List Int)) : Prop :=
  ∃ ao cap, v = .slice ao xss.length cap ∧ xss.length ≤ cap ∧ cap ≤ 9223372036854775807 ∧ OwnGA lo hi w ao rvs xss

/-- the blocks of the rows -/
def rowBlks (rvs : List Value) (xss : List (List Int)) : Nat → Prop := fun b => ∃ k, k < xss.length ∧ rowAt xss k ≠ [] ∧ b = blk (rvAt rvs k)

namespace OwnGA
variable {lo hi lo' hi' : Nat} {S : Nat → Prop} {w w' : World} {ao : Option Addr} {rvs : List Value} {xss : List (List Int)}
/-- where a row's value stands -/
theorem at_ (h : OwnGA lo hi w ao rvs xss) {k : Nat} (hk : k < xss.length) : ∃ b o, ao = some ⟨b, o, none⟩ ∧ lo ≤ b ∧ b < hi ∧ b < w.heap.size ∧
    w.cell? ⟨b, o + k, none⟩ = some (rvAt rvs k) ∧ w.frozen? ⟨b, o + k, none⟩ = false := by
  rcases h.spine with h3 | ⟨g, o, c, rfl, l1, l2, hg, hc⟩
  · subst h3; simp at hk
  · exact ⟨g, o, rfl, l1, l2, (Array.getElem?_eq_some_iff.1 hg).1, by simp [World.cell?, hg, hc k hk], by simp [World.frozen?, hg]⟩
/-- the rows lie in other blocks than the slice of rows -/
theorem apart (h : OwnGA lo hi w ao rvs xss) {k : Nat} (hk : k < xss.length) (hr : rowAt xss k ≠ []) : blk (rvAt rvs k) ≠ ablk ao := by
  rcases h.spine with h3 | ⟨g, o, c, rfl, l1, l2, hg, hc⟩
  · subst h3; simp at hk
  · obtain ⟨ao', cap', hv, _, _, h4⟩ := h.row k hk
    rcases h4 with h4 | ⟨g', o', c', rfl, _, _, hg', _⟩
    · exact absurd h4 hr
    · rw [hv]; simp only [blk, ablk]
      intro e; subst e; rw [hg] at hg'; simp at hg'
theorem grid (h : OwnGA lo hi w ao rvs xss) : GridA w ao xss := by
  intro k hk
  obtain ⟨b, o, rfl, _, _, _, hc, _⟩ := h.at_ hk
  exact ⟨b, o, _, rfl, hc, (h.row k hk).ints⟩
theorem upd (h : OwnGA lo hi w ao rvs xss) (u : Upd S w w') (hs : xss ≠ [] → ¬ S (ablk ao)) (hr : ∀ k, k < xss.length → rowAt xss k ≠ [] → ¬ S (blk (rvAt rvs k))) : OwnGA lo hi w' ao rvs xss := by
  refine ⟨h.len, ?_, fun k hk => (h.row k hk).upd u (hr k hk), h.diff⟩
  rcases h.spine with h3 | ⟨g, o, c, rfl, l1, l2, hg, hc⟩
  · exact .inl h3
  · by_cases hx : xss = []
    · exact .inl hx
    · exact .inr ⟨g, o, c, rfl, l1, l2, by rw [u.block g (Array.getElem?_eq_some_iff.1 hg).1 (hs hx)]; exact hg, hc⟩
theorem ext (h : OwnGA lo hi w ao rvs xss) (u : Ext w w') : OwnGA lo hi w' ao rvs xss := h.upd u (fun _ s => s) (fun _ _ _ s => s)
theorem mono (h : OwnGA lo hi w ao rvs xss) (h1 : lo' ≤ lo) (h2 : hi ≤ hi') : OwnGA lo' hi' w ao rvs xss := by
  refine ⟨h.len, ?_, fun k hk => (h.row k hk).mono h1 h2, h.diff⟩
  rcases h.spine with h3 | ⟨g, o, c, rfl, l1, l2, hg, hc⟩
  · exact .inl h3
  · exact .inr ⟨g, o, c, rfl, by omega, by omega, hg, hc⟩
theorem blks (h : OwnGA lo hi w ao rvs xss) {b : Nat} (hb : rowBlks rvs xss b) : lo ≤ b ∧ b < hi ∧ b < w.heap.size := by
  obtain ⟨k, hk, hr, rfl⟩ := hb
  exact (h.row k hk).range hr
theorem range (h : OwnGA lo hi w ao rvs xss) (hx : xss ≠ []) : lo ≤ ablk ao ∧ ablk ao < hi ∧ ablk ao < w.heap.size := by
  rcases h.spine with h3 | ⟨g, o, c, rfl, l1, l2, hg, hc⟩
  · exact absurd h3 hx
  · exact ⟨l1, l2, (Array.getElem?_eq_some_iff.1 hg).1⟩
/-- a row is written anew: the row as it now reads, all else as it was -/
theorem put (h : OwnGA lo hi w ao rvs xss) {k : Nat} (hk : k < xss.length) {ys : List Int} (hl : ys.length = (rowAt xss k).length) (hrow : Own lo hi w' (rvAt rvs k) ys)
    (u : Upd (fun b => rowAt xss k ≠ [] ∧ b = blk (rvAt rvs k)) w w') : OwnGA lo hi w' ao rvs (xss.set k ys) := by
  have hne : ∀ j, rowAt (xss.set k ys) j ≠ [] → rowAt xss j ≠ [] := by
    intro j hj e
    rw [rowAt_set] at hj
    split at hj
    · rename_i hjk; obtain ⟨rfl, _⟩ := hjk
      rw [e] at hl; exact hj (List.eq_nil_of_length_eq_zero hl)
    · exact hj e
  have hap := h.apart hk
  refine ⟨by simpa using h.len, ?_, fun j hj => ?_, fun i j hi hj hij hri hrj => h.diff i j (by simpa using hi) (by simpa using hj) hij (hne i hri) (hne j hrj)⟩
  · rcases h.spine with h3 | ⟨g, o, c, rfl, l1, l2, hg, hc⟩
    · subst h3; simp at hk
    · refine .inr ⟨g, o, c, rfl, l1, l2, ?_, by simpa using hc⟩
      rw [u.block g (Array.getElem?_eq_some_iff.1 hg).1 (fun ⟨hr, e⟩ => hap hr e.symm)]; exact hg
  · have hj' : j < xss.length := by simpa using hj
    rw [rowAt_set]
    split
    · rename_i hjk; obtain ⟨rfl, _⟩ := hjk; exact hrow
    · rename_i hjk
      have hjk' : j ≠ k := fun e => hjk ⟨e, hk⟩
      refine (h.row j hj').upd u (fun hr ⟨hr', e⟩ => h.diff j k hj' hk hjk' hr hr' e)
end OwnGA

namespace OwnG
variable {lo hi lo' hi' : Nat} {S : Nat → Prop} {w w' : World} {v : Value} {rvs : List Value} {xss : List (List Int)}
theorem grid (h : OwnG lo hi w v rvs xss) : Grid w v xss := by
  obtain ⟨ao, cap, rfl, h1, h2, h3⟩ := h
  exact ⟨ao, cap, rfl, h1, h2, h3.grid⟩
theorem ext (h : OwnG lo hi w v rvs xss) (u : Ext w w') : OwnG lo hi w' v rvs xss := by
  obtain ⟨ao, cap, rfl, h1, h2, h3⟩ := h
  exact ⟨ao, cap, rfl, h1, h2, h3.ext u⟩
theorem upd (h : OwnG lo hi w v rvs xss) (u : Upd S w w') (hs : xss ≠ [] → ¬ S (blk v)) (hr : ∀ k, k < xss.length → rowAt xss k ≠ [] → ¬ S (blk (rvAt rvs k))) : OwnG lo hi w' v rvs xss := by
  obtain ⟨ao, cap, rfl, h1, h2, h3⟩ := h
  exact ⟨ao, cap, rfl, h1, h2, h3.upd u hs hr⟩
/-- what is written lies below lo or from hi on: the grid is as it was -/
theorem away (h : OwnG lo hi w v rvs xss) (u : Upd S w w') (hs : ∀ b, S b → b < lo ∨ hi ≤ b) : OwnG lo hi w' v rvs xss := by
  obtain ⟨ao, cap, rfl, h1, h2, h3⟩ := h
  refine ⟨ao, cap, rfl, h1, h2, h3.upd u (fun hx s => ?_) (fun k hk hr s => ?_)⟩
  · have := hs _ s; have := h3.range hx; omega
  · have := hs _ s; have := (h3.row k hk).range hr; omega
theorem mono (h : OwnG lo hi w v rvs xss) (h1 : lo' ≤ lo) (h2 : hi ≤ hi') : OwnG lo' hi' w v rvs xss := by
  obtain ⟨ao, cap, rfl, e1, e2, h3⟩ := h
  exact ⟨ao, cap, rfl, e1, e2, h3.mono h1 h2⟩
theorem nil : OwnG lo hi w (.slice none 0 0) [] [] := ⟨none, 0, rfl, Nat.le_refl _, by omega, rfl, .inl rfl, fun k hk => by simp at hk, fun j k hj => by simp at hj⟩
theorem blks (h : OwnG lo hi w v rvs xss) {b : Nat} (hb : rowBlks rvs xss b) : lo ≤ b ∧ b < hi ∧ b < w.heap.size := by
  obtain ⟨ao, cap, rfl, e1, e2, h3⟩ := h
  exact h3.blks hb
end OwnG
theorem Own.away {lo hi : Nat} {S : Nat → Prop} {w w' : World} {v : Value} {xs : List Int} (h : Own lo hi w v xs) (u : Upd S w w') (hs : ∀ b, S b → b < lo ∨ hi ≤ b) : Own lo hi w' v xs :=
  h.upd u (fun hx s => by have := hs _ s; have := h.range hx; omega)

/-- a row of ints and a row of slices lie in two blocks -/
theorem Own.ne_row {lo hi g n : Nat} {f : Nat → Value} {w : World} {v : Value} {xs : List Int} (h : Own lo hi w v xs) (hr : w.rowIs g 36 n f) (hx : xs ≠ []) : blk v ≠ g := by
  obtain ⟨ao, cap, rfl, _, _, h3⟩ := h
  rcases h3 with h3 | ⟨g', o', c', rfl, _, _, hg', _⟩
  · exact absurd h3 hx
  · obtain ⟨c, hc, _, _⟩ := hr
    simp only [blk, ablk]
    intro e; subst e; rw [hc] at hg'; simp at hg'
theorem rowIs_ext {w w' : World} {g t n : Nat} {f : Nat → Value} (h : w.rowIs g t n f) (u : Ext w w') : w'.rowIs g t n f := h.of_block (u.block h.lt)

/-- what a call that hands back a fresh grid leaves: the value is made by 'mk' of the grid's -/
def RetGrid (mk : Value → Value) (w : World) (xss : List (List Int)) (e : Ending) (w' : World) : Prop :=
  ∃ v' rvs, e = .returned (mk v') ∧ OwnG w.heap.size w'.heap.size w' v' rvs xss ∧ Ext w w'
/-- the same of a fresh slice of ints -/
def RetInts (mk : Value → Value) (w : World) (xs : List Int) (e : Ending) (w' : World) : Prop :=
  ∃ v', e = .returned (mk v') ∧ Own w.heap.size w'.heap.size w' v' xs ∧ Ext w w'
theorem Own.put_away {lo hi : Nat} {w : World} {v : Value} {xs : List Int} (h : Own lo hi w v xs) (a : Addr) (u : Value) (ha : a.block < lo ∨ hi ≤ a.block) : Own lo hi (w.setCell a u) v xs :=
  h.away (S := fun b => b = a.block) ((Upd.refl w).setCell u (fun _ => rfl)) (fun b hb => by subst hb; exact ha)
theorem OwnG.put_away {lo hi : Nat} {w : World} {v : Value} {rvs : List Value} {xss : List (List Int)} (h : OwnG lo hi w v rvs xss) (a : Addr) (u : Value) (ha : a.block < lo ∨ hi ≤ a.block) : OwnG lo hi (w.setCell a u) v rvs xss :=
  h.away (S := fun b => b = a.block) ((Upd.refl w).setCell u (fun _ => rfl)) (fun b hb => by subst hb; exact ha)

/-! ### Appending one element to a slice of the call's own -/
theorem app1 {P : Program} {ops : Array Oper} {rest : List Oper} {o : Oper} {a : Act} {Q : Exit → Act → World → Prop} (w : World) (hgd : o.guard = none) (s x : Operand) (t e : TypeId)
    (ho : o.op = .call { callee := .builtin .append, args := #[s, x], argTypes := #[t, t] }) (z : Value) (bytes : Nat) (ht : P.underlying t = some (.slice e))
    (hinfo : (P.info? e).map (fun i => (i.zero, i.size, i.bytes)) = some (some z, 1, bytes)) (hzs : z.cells.size = 1)
    (lo : Nat) (v : Value) (n : Nat) (xs : List Value) (hs : a.eval s = v) (hown : w.ownsRow lo e 1 v n xs) (B c T : Nat) (u : Value) (hx : a.eval x = .slice (some ⟨B, 0, none⟩) 1 c) (hb : Box w B T #[u]) (hu : u.oneCell' = true)
    (hn : n < 9223372036854775807) (hbytes : (n + 1) * bytes ≤ 140737488355328) (hlo : lo ≤ w.heap.size)
    (h : ∀ g cap w', w'.ownsRow lo e 1 (.slice (some ⟨g, 0, none⟩) (n + 1) cap) (n + 1) (xs ++ [u]) → w.grownBy w' v.ownBlock → (v.ownBlock = some g ∨ g = w.heap.size) → g < w'.heap.size →
      wpList P ops Q rest (a.put o.dst (.slice (some ⟨g, 0, none⟩) (n + 1) cap)) w') : wpList P ops Q (o :: rest) a w := by
  obtain ⟨i, hi, hz0, hz1, hz2⟩ := info_parts hinfo
  exact wpList_append_lies w hgd s x t ho lo e i z 1 bytes ht hi hz0 hz1 hz2 hzs (by omega) v n xs hs hown ⟨B, 0, none⟩ 1 c [u] hx rfl (World.news_of_block hb) (by intro y hy; simp at hy; subst hy; exact hu)
    (by omega) (by simp [maxLen]; omega) hbytes hlo w.heap.size rfl h
/-- an owned row that begins a block: which block -/
theorem ownsRow_blk {w : World} {lo e n : Nat} {v : Value} {xs : List Value} (h : w.ownsRow lo e 1 v n xs) {g : Nat} (hg : v.ownBlock = some g) : lo ≤ g ∧ g < w.heap.size := h.lt g hg
/-- rows in blocks of their own under a slice of rows that the call built -/
theorem OwnG.of_ownsRow {lo hi n : Nat} {w : World} {v : Value} {rvs : List Value} {xss : List (List Int)} (h : w.ownsRow lo 36 1 v n rvs) (hn : xss.length = n) (hh : w.heap.size ≤ hi)
    (hrow : ∀ k, k < xss.length → Own lo hi w (rvAt rvs k) (rowAt xss k))
    (hd : ∀ j k, j < xss.length → k < xss.length → j ≠ k → rowAt xss j ≠ [] → rowAt xss k ≠ [] → blk (rvAt rvs j) ≠ blk (rvAt rvs k)) : OwnG lo hi w v rvs xss := by
  obtain ⟨h1, h2⟩ := h
  have hl : rvs.length = n := by simpa using h1
  subst hn
  rcases h2 with ⟨rfl, h0⟩ | ⟨g, cap, cur, rfl, hb, hg, hnc, hm, hs, ht⟩
  · have : xss = [] := List.eq_nil_of_length_eq_zero h0
    subst this
    exact ⟨none, 0, rfl, Nat.le_refl _, by omega, hl, .inl rfl, hrow, hd⟩
  · refine ⟨some ⟨g, 0, none⟩, cap, rfl, hnc, by simpa [maxLen] using hm, hl, .inr ⟨g, 0, cur, rfl, hb, by have := (Array.getElem?_eq_some_iff.1 hg).1; omega, hg, fun k hk => ?_⟩, hrow, hd⟩
    have hk' : k < rvs.length := by omega
    have h1 : rvs[k]? = some (rvAt rvs k) := by simp [rvAt, List.getD, hk']
    have h2 : (cur.toList.take (xss.length * 1))[k]? = some (rvAt rvs k) := by rw [ht]; exact h1
    rw [List.getElem?_take, if_pos (by omega)] at h2
    simpa using h2
theorem Own.ne_ownsRow {lo hi lo' n : Nat} {w : World} {v v' : Value} {xs : List Int} {ys : List Value} (h : Own lo hi w v xs) (hr : w.ownsRow lo' 36 1 v' n ys) (hx : xs ≠ []) : v'.ownBlock ≠ some (blk v) := by
  obtain ⟨ao, cap, rfl, _, _, h3⟩ := h
  rcases h3 with h3 | ⟨g, o, c, rfl, _, _, hg, _⟩
  · exact absurd h3 hx
  · obtain ⟨_, h2⟩ := hr
    rcases h2 with ⟨rfl, _⟩ | ⟨g', cap', cur, rfl, _, hg', _⟩
    · simp [Value.ownBlock]
    · simp only [Value.ownBlock, blk, ablk, ne_eq, Option.some.injEq]
      intro e; subst e; rw [hg] at hg'; simp at hg'
theorem Box.ne_ownsRow {lo n b e T : Nat} {w : World} {v : Value} {vs : Array Value} {ys : List Value} (h : Box w b T vs) (hr : w.ownsRow lo e 1 v n ys) (hT : T ≠ e) : v.ownBlock ≠ some b := by
  obtain ⟨_, h2⟩ := hr
  rcases h2 with ⟨rfl, _⟩ | ⟨g', cap', cur, rfl, _, hg', _⟩
  · simp [Value.ownBlock]
  · simp only [Value.ownBlock, ne_eq, Option.some.injEq]
    intro e; subst e
    have h' : w.heap[g']? = some (.cells vs T (0, 0)) := h
    rw [h'] at hg'; simp at hg'; exact hT hg'.2
/-- a store into a variable of another type leaves rows and grids as they were -/
theorem Own.put_box {lo hi b i T : Nat} {w : World} {v : Value} {xs : List Int} {vs : Array Value} (h : Own lo hi w v xs) (hb : Box w b T vs) (hT : T ≠ 3) (x : Value) : Own lo hi (w.setCell ⟨b, i, none⟩ x) v xs := by
  refine h.upd (S := fun c => c = b) ((Upd.refl w).setCell _ (fun _ => rfl)) (fun hx e => ?_)
  obtain ⟨ao, cap, rfl, _, _, h4⟩ := h
  rcases h4 with h4 | ⟨g', o', c', rfl, _, _, hg', _⟩
  · exact hx h4
  · simp only [blk, ablk] at e; subst e
    have h' : w.heap[g']? = some (.cells vs T (0, 0)) := hb
    rw [h'] at hg'; simp at hg'; exact hT hg'.2
theorem OwnG.put_box {lo hi b i T : Nat} {w : World} {v : Value} {rvs : List Value} {xss : List (List Int)} {vs : Array Value} (h : OwnG lo hi w v rvs xss) (hb : Box w b T vs) (hT : T ≠ 3) (hT2 : T ≠ 36) (x : Value) :
    OwnG lo hi (w.setCell ⟨b, i, none⟩ x) v rvs xss := by
  obtain ⟨ao, cap, rfl, e1, e2, h3⟩ := h
  refine ⟨ao, cap, rfl, e1, e2, h3.len, ?_, fun k hk => (h3.row k hk).put_box hb hT x, h3.diff⟩
  rcases h3.spine with h4 | ⟨g, o, c, rfl, l1, l2, hg, hc⟩
  · exact .inl h4
  · refine .inr ⟨g, o, c, rfl, l1, l2, ?_, hc⟩
    rw [Below.heap_setCell _ _ _ _ (fun e => ?_)]
    · exact hg
    · simp only at e; subst e
      have h' : w.heap[g]? = some (.cells vs T (0, 0)) := hb
      rw [h'] at hg; simp at hg; exact hT2 hg.2
theorem Upd.of_grown {w w' : World} {row : Option Nat} (hg : w.grownBy w' row) : Upd (fun b => row = some b) w w' := ⟨hg.os, hg.tape, hg.output, hg.size, fun k hk hs => hg.block k hk (fun e => hs e.symm)⟩

/-! ### Marks -/
/-- k, k + 1, .. -/
def seqI (k : Int) (n : Nat) : List Int := (List.range n).map fun (i : Nat) => k + (i : Int)
theorem seqI_length (k : Int) (n : Nat) : (seqI k n).length = n := by simp [seqI]
theorem ix_seqI {k : Int} {n i : Nat} (h : i < n) : ix (seqI k n) i = k + i := by simp [ix, seqI, List.getD, h]
/-- how many ints the first k rows hold -/
def psum (xss : List (List Int)) (k : Nat) : Nat := ((xss.take k).map List.length).sum
theorem psum_zero (xss : List (List Int)) : psum xss 0 = 0 := by simp [psum]
theorem psum_succ {xss : List (List Int)} {k : Nat} (h : k < xss.length) : psum xss (k + 1) = psum xss k + (rowAt xss k).length := by
  simp [psum, take_succ_row h]
/-- a grid of the shape of xss, marked from k0 on -/
def MarkedG (k0 : Int) (xss yss : List (List Int)) : Prop := yss.length = xss.length ∧ ∀ r, r < xss.length → rowAt yss r = seqI (k0 + psum xss r) (rowAt xss r).length
end Go.Proofs.Ytodnkahnbidgaaa
