/- A slice of ints that is cut at its head and appended to at its tail, in blocks of the call's own. -/
import Derived.Test.YtodnkahnbidgaaaApp
import Derived.ArgAppend
namespace Go.Proofs.Ytodnkahnbidgaaa
open Go.RowKit

/-- v reads as xs; its block (from lo on) may be written, up to the capacity -/
def QRow (lo : Nat) (w : World) (v : Value) (xs : List Int) : Prop :=
  ∃ b o cap c, v = .slice (some ⟨b, o, none⟩) xs.length cap ∧ lo ≤ b ∧ w.heap[b]? = some (.cells c 3 (0, 0)) ∧ o + cap ≤ c.size ∧ xs.length ≤ cap ∧ cap ≤ 9223372036854775807 ∧
    ∀ k, k < xs.length → c[o + k]? = some (.int .i64 (ix xs k))
namespace QRow
variable {lo : Nat} {w w' : World} {v : Value} {xs : List Int}
theorem upd {S : Nat → Prop} (h : QRow lo w v xs) (u : Upd S w w') (hs : ∀ b, lo ≤ b → ¬ S b) : QRow lo w' v xs := by
  obtain ⟨b, o, cap, c, e, hb, hc, r⟩ := h
  exact ⟨b, o, cap, c, e, hb, by rw [Upd.block u b (Array.getElem?_eq_some_iff.1 hc).1 (hs b hb)]; exact hc, r⟩
theorem ext (h : QRow lo w v xs) (u : Ext w w') : QRow lo w' v xs := h.upd u (fun _ _ s => s)
theorem put (h : QRow lo w v xs) {a : Addr} (ha : a.block < lo) (x : Value) : QRow lo (w.setCell a x) v xs :=
  h.upd (S := fun b => b = a.block) ((Upd.refl w).setCell x (fun _ => rfl)) (fun b hb e => by omega)
theorem one {b : Nat} {x : Int} (h : Box w b 3 #[.int .i64 x]) (hl : lo ≤ b) : QRow lo w (.slice (some ⟨b, 0, none⟩) 1 1) [x] :=
  ⟨b, 0, 1, _, rfl, hl, h, by simp, by simp, by omega, fun k hk => by
    have : k = 0 := by simpa using hk
    subst this; simp [ix, List.getD]⟩
theorem of_ownsRow {n : Nat} (h : w.ownsRow lo 3 1 v n (xs.map (Value.int .i64))) (hn : 0 < n) : QRow lo w v xs := by
  obtain ⟨h1, h2⟩ := h
  have hl : xs.length = n := by simpa using h1
  rcases h2 with ⟨_, h0⟩ | ⟨g, cap, cur, rfl, hb, hg, hnc, hm, hs, ht⟩
  · omega
  · refine ⟨g, 0, cap, cur, by rw [hl], hb, hg, by omega, by omega, by simpa [maxLen] using hm, fun k hk => ?_⟩
    have : (xs.map (Value.int .i64))[k]? = some (.int .i64 (ix xs k)) := by rw [ix_eq hk]; simp [hk]
    rw [← ht, List.getElem?_take, if_pos (by omega)] at this
    simpa using this
/-- its head, and what is behind it -/
theorem head {x : Int} (h : QRow lo w v (x :: xs)) : ∃ b o cap, v = .slice (some ⟨b, o, none⟩) (xs.length + 1) cap ∧ xs.length + 1 ≤ cap ∧ cap ≤ 9223372036854775807 ∧ w.cell? ⟨b, o, none⟩ = some (.int .i64 x) ∧
    (cap = 1 → QRow lo w (.slice (some ⟨b, o, none⟩) 0 0) xs) ∧ (cap ≠ 1 → QRow lo w (.slice (some ⟨b, o + 1, none⟩) xs.length (cap - 1)) xs) := by
  obtain ⟨b, o, cap, c, rfl, hb, hc, h1, h2, h3, h4⟩ := h
  simp only [List.length_cons] at h2 h4
  have h0 := h4 0 (by omega)
  refine ⟨b, o, cap, rfl, h2, h3, ?_, fun e => ?_, fun e => ?_⟩
  · rw [Nat.add_zero] at h0
    simp [World.cell?, hc, h0, ix, List.getD]
  · have hx : xs = [] := List.eq_nil_of_length_eq_zero (by omega)
    subst hx
    exact ⟨b, o, 0, c, rfl, hb, hc, by omega, by simp, by omega, fun k hk => by simp at hk⟩
  · refine ⟨b, o + 1, cap - 1, c, rfl, hb, hc, by omega, by omega, by omega, fun k hk => ?_⟩
    have := h4 (k + 1) (by omega)
    rw [show o + 1 + k = o + (k + 1) by omega, this]
    simp [ix, List.getD]
theorem form (h : QRow lo w v xs) : ∃ b o cap, v = .slice (some ⟨b, o, none⟩) xs.length cap ∧ xs.length ≤ cap ∧ cap ≤ 9223372036854775807 := by
  obtain ⟨b, o, cap, c, e, _, _, _, h2, h3, _⟩ := h
  exact ⟨b, o, cap, e, h2, h3⟩
end QRow
/-- append of one int -/
theorem qapp1 {P : Program} {ops : Array Oper} {rest : List Oper} {o : Oper} {a : Act} {Q : Exit → Act → World → Prop} (w : World) (hgd : o.guard = none) (s x : Operand) (t : TypeId)
    (ho : o.op = .call { callee := .builtin .append, args := #[s, x], argTypes := #[t, t] }) (bytes : Nat) (ht : P.underlying t = some (.slice 3))
    (hinfo : (P.info? 3).map (fun i => (i.zero, i.size, i.bytes)) = some (some (.int .i64 0), 1, bytes))
    (lo : Nat) (v : Value) (xs : List Int) (hs : a.eval s = v) (hq : QRow lo w v xs) (B c T : Nat) (u : Int) (hx : a.eval x = .slice (some ⟨B, 0, none⟩) 1 c) (hb : Box w B T #[.int .i64 u])
    (hn : xs.length < 1000000) (hby : bytes ≤ 1000) (hlo : lo ≤ w.heap.size)
    (h : ∀ v' w', QRow lo w' v' (xs ++ [u]) → Upd (fun b => lo ≤ b) w w' → wpList P ops Q rest (a.put o.dst v') w') : wpList P ops Q (o :: rest) a w := by
  obtain ⟨i, hi, hz0, hz1, hz2⟩ := info_parts hinfo
  obtain ⟨b, of, cap, cur, rfl, hbl, hg, hsz, hnc, hcm, hel⟩ := hq
  have hcell : ∀ j, of + j < cur.size → (w.cell? ⟨b, of + j, none⟩) = some (cur[of + j]!) := fun j hj => by
    simp [World.cell?, hg, hj]
  refine wpList_append_arg w hgd s x t ho 3 i (.int .i64 0) 1 bytes ht hi hz0 hz1 hz2 rfl (by omega) b of xs.length cap (xs.map (Value.int .i64)) hs (by simp) (fun j u' hj => ?_)
    ⟨B, 0, none⟩ 1 c [.int .i64 u] hx rfl (World.news_of_block hb) (by intro y hy; simp at hy; subst hy; rfl) (fun hr j hj => ?_) (by simp [maxLen]; omega) ?_ (fun hr => ?_) (fun hr v' w' hown hgrow => ?_)
  · have hjl : j < xs.length := by have := (List.getElem?_eq_some_iff.1 hj).1; simpa using this
    have h5 : (xs.map (Value.int .i64))[j]? = some (.int .i64 (ix xs j)) := by rw [ix_eq hjl]; simp [hjl]
    rw [h5] at hj
    obtain rfl := Option.some.inj hj
    simp [World.cell?, hg, hel j hjl]
  · have hj0 : j = 0 := by simpa using hj
    subst hj0
    simp only [Nat.mul_one, Nat.add_zero]
    refine ⟨by rw [hcell xs.length (by omega)]; rfl, by simp [World.frozen?, hg]⟩
  · have : (xs.length + 1) * bytes ≤ 1000001 * 1000 := Nat.mul_le_mul (by omega) hby
    omega
  · have hcells : w.setCells b (of + xs.length * 1) [.int .i64 u] = w.setCell ⟨b, of + xs.length, none⟩ (.int .i64 u) := by simp [World.setCells]
    rw [hcells]
    refine h _ _ ⟨b, of, cap, cur.setIfInBounds (of + xs.length) (.int .i64 u), by simp, hbl, by simp [World.setCell, Array.getElem?_modify, hg], by simpa using hsz, by simpa using hr, hcm, fun k hk => ?_⟩ ((Upd.refl w).setCell _ (fun _ => hbl))
    simp only [List.length_append, List.length_cons, List.length_nil] at hk
    rw [Array.getElem?_setIfInBounds]
    by_cases e : k = xs.length
    · subst e
      rw [if_pos rfl, if_pos (by omega), ix_append_len]
    · rw [if_neg (by omega), ix_append_left (by omega)]; exact hel k (by omega)
  · have hq2 : w'.ownsRow w.heap.size 3 1 v' (xs.length + 1) ((xs ++ [u]).map (Value.int .i64)) := by simpa using hown
    obtain ⟨b', o', cap', c', e1, e2, e3⟩ := QRow.of_ownsRow hq2 (by omega)
    exact h _ _ ⟨b', o', cap', c', e1, Nat.le_trans hlo e2, e3⟩ ((Upd.of_grown hgrow).mono (fun k _ hk => by cases hk))
end Go.Proofs.Ytodnkahnbidgaaa
