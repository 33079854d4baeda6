/- A network that is built by append, row by row: what is kept, step by step. No walk here. -/
import Derived.Test.YtodnkahnbidgaaaHold
import Derived.Test.YtodnkahnbidgaaaMapG
import Derived.Test.YtodnkahnbidgaaaSums
import Derived.Test.YtodnkahnbidgaaaTr
namespace Go.Proofs.Ytodnkahnbidgaaa
open Go.RowKit

/-- a slice of ints and a slice of slices do not share a block -/
theorem ints_ne_spine {lo lo' n n' : Nat} {w : World} {v v' : Value} {xs ys : List Value} (h : w.ownsRow lo 3 1 v n xs) (h' : w.ownsRow lo' 36 1 v' n' ys) {b : Nat} (hb : v.ownBlock = some b) : v'.ownBlock ≠ some b := by
  intro hb'
  obtain ⟨_, h2⟩ := h
  obtain ⟨_, h3⟩ := h'
  rcases h2 with ⟨rfl, _⟩ | ⟨g, cap, cur, rfl, _, hg, _⟩
  · simp [Value.ownBlock] at hb
  · rcases h3 with ⟨rfl, _⟩ | ⟨g', cap', cur', rfl, _, hg', _⟩
    · simp [Value.ownBlock] at hb'
    · simp only [Value.ownBlock, Option.some.injEq] at hb hb'
      subst hb; subst hb'
      rw [hg] at hg'; simp at hg'
theorem IRow.keepSpine {lo lo' n : Nat} {w w' : World} {v v' : Value} {xs : List Int} {ys : List Value} (h : IRow lo w v xs) (hr : w.ownsRow lo' 36 1 v' n ys) (hg : w.grownBy w' v'.ownBlock) : IRow lo w' v xs :=
  h.upd (Upd.of_grown hg) (fun _ hb e => ints_ne_spine h hr hb e)
theorem IRow.keepInts {lo : Nat} {w w' : World} {v v' : Value} {xs : List Int} (h : IRow lo w v xs) (hg : w.grownBy w' v'.ownBlock) (hd : ∀ b, v'.ownBlock = some b → v.ownBlock ≠ some b) : IRow lo w' v xs :=
  h.upd (Upd.of_grown hg) (fun b hb e => hd b e hb)
theorem Own.keepSpine {lo hi lo' n : Nat} {w w' : World} {v v' : Value} {xs : List Int} {ys : List Value} (h : Own lo hi w v xs) (hr : w.ownsRow lo' 36 1 v' n ys) (hg : w.grownBy w' v'.ownBlock) : Own lo hi w' v xs :=
  h.upd (Upd.of_grown hg) (fun hx e => h.ne_ownsRow hr hx e)
theorem GRow.keepSpine {lo hi lo' n : Nat} {w w' : World} {v v' : Value} {rvs ys : List Value} {xss : List (List Int)} (h : GRow lo hi w v rvs xss) (hr : w.ownsRow lo' 36 1 v' n ys) (hg : w.grownBy w' v'.ownBlock) (hd : ∀ b, v'.ownBlock = some b → v.ownBlock ≠ some b) : GRow lo hi w' v rvs xss :=
  h.upd (Upd.of_grown hg) (fun b hb e => hd b e hb) (fun _ hb e => by
    obtain ⟨k, hk, hne, rfl⟩ := hb
    exact (h.row k hk).ne_ownsRow hr hne e)
theorem GRow.keepInts {lo hi lo' : Nat} {w w' : World} {v v' : Value} {rvs : List Value} {xss : List (List Int)} {xs : List Int} (h : GRow lo hi w v rvs xss) (hr : IRow lo' w v' xs) (hg : w.grownBy w' v'.ownBlock) (hd : ∀ b, v'.ownBlock = some b → ¬ rowBlks rvs xss b) : GRow lo hi w' v rvs xss :=
  h.upd (Upd.of_grown hg) (fun _ hb e => ints_ne_spine hr h.own e hb) (fun b hb e => hd b e hb)
/-- the rows' blocks, one row more -/
theorem rowBlks_snoc {rvs : List Value} {xss : List (List Int)} {v : Value} {r : List Int} (hl : rvs.length = xss.length) {b : Nat} (hb : rowBlks (rvs ++ [v]) (xss ++ [r]) b) : rowBlks rvs xss b ∨ (r ≠ [] ∧ b = blk v) := by
  obtain ⟨k, hk, hne, rfl⟩ := hb
  by_cases e : k < xss.length
  · left
    rw [rowAt_append_left e] at hne
    exact ⟨k, e, hne, by rw [rvAt_append_left (by omega)]⟩
  · right
    have : k = xss.length := by simp at hk; omega
    subst this
    rw [rowAt_append_len] at hne
    refine ⟨hne, ?_⟩
    have := @rvAt_append_len rvs v
    rw [hl] at this; rw [this]

/-- a network under way: its first kr row sums, kl rows of lo, kh rows of hi; HL, HH: bounds of the rows' blocks -/
structure NetA (w : World) (B : Nat) (R : List Int) (L H : List (List Int)) (kr kl kh HL HH : Nat) (wr : World) (rv lv hv : Value) (rl rh : List Value) : Prop where
  box : Box wr B 38 #[rv, .slice none 0 0, lv, hv]
  rows : IRow (B + 1) wr rv (R.take kr)
  lo : GRow (B + 1) HL wr lv rl (L.take kl)
  hi : GRow (B + 1) HH wr hv rh (H.take kh)
  d1 : ∀ b, rv.ownBlock = some b → ¬ rowBlks rl (L.take kl) b
  d2 : ∀ b, rv.ownBlock = some b → ¬ rowBlks rh (H.take kh) b
  d3 : ∀ b, lv.ownBlock = some b → hv.ownBlock ≠ some b
  ext : Ext w wr
  sz : B + 1 ≤ wr.heap.size
  szw : w.heap.size ≤ B
  bl : HL ≤ wr.heap.size
  bh : HH ≤ wr.heap.size
namespace NetA
variable {w wo wb w3 : World} {B kr kl kh HL HH g cp : Nat} {R : List Int} {L H : List (List Int)} {rv lv hv : Value} {rl rh : List Value}
theorem ext' (h : NetA w B R L H kr kl kh HL HH wo rv lv hv rl rh) (E : Ext wo wb) : NetA w B R L H kr kl kh HL HH wb rv lv hv rl rh :=
  ⟨h.box.ext E, h.rows.ext E, h.lo.ext E, h.hi.ext E, h.d1, h.d2, h.d3, h.ext.trans E, Nat.le_trans h.sz E.size, h.szw, Nat.le_trans h.bl E.size, Nat.le_trans h.bh E.size⟩
theorem addRow (h : NetA w B R L H kr kl kh HL HH wb rv lv hv rl rh) (hk : kr < R.length) (hg : wb.grownBy w3 rv.ownBlock) (hat : rv.ownBlock = some g ∨ g = wb.heap.size)
    (hown : w3.ownsRow (B + 1) 3 1 (.slice (some ⟨g, 0, none⟩) (kr + 1) cp) (kr + 1) ((R.take kr).map (Value.int .i64) ++ [.int .i64 (ix R kr)])) :
    NetA w B R L H (kr + 1) kl kh HL HH (w3.setCell ⟨B, 0, none⟩ (.slice (some ⟨g, 0, none⟩) (kr + 1) cp)) (.slice (some ⟨g, 0, none⟩) (kr + 1) cp) lv hv rl rh := by
  have hlen : (R.take kr).length = kr := by simp; omega
  have hr : IRow (B + 1) w3 (.slice (some ⟨g, 0, none⟩) (kr + 1) cp) (R.take (kr + 1)) := by
    rw [take_succ_ix hk]
    exact IRow.push (by rw [hlen]; exact hown)
  have hs := hg.size
  have hb := (h.rows.box hg (by omega) h.box).set 0 (.slice (some ⟨g, 0, none⟩) (kr + 1) cp)
  have h1 := h.sz
  have hbl := h.bl
  have hbh := h.bh
  refine ⟨hb, hr.put (by simp) _, (h.lo.keepInts h.rows hg h.d1).put (by simp) _, (h.hi.keepInts h.rows hg h.d2).put (by simp) _, fun b e => ?_, fun b e => ?_, h.d3, (h.rows.grew h.ext (by have := h.szw; omega) hg).setCell _ h.szw, by simp [World.setCell]; omega, h.szw, by simp [World.setCell]; omega, by simp [World.setCell]; omega⟩
  · simp only [Value.ownBlock, Option.some.injEq] at e
    subst e
    rcases hat with e | e
    · exact h.d1 _ e
    · subst e; intro hb; have := (h.lo.rows hb).2.2; omega
  · simp only [Value.ownBlock, Option.some.injEq] at e
    subst e
    rcases hat with e | e
    · exact h.d2 _ e
    · subst e; intro hb; have := (h.hi.rows hb).2.2; omega
theorem addLo {ov : Value} {M : Nat} (h : NetA w B R L H kr kl kh HL HH wb rv lv hv rl rh) (hk : kl < L.length) (hx : Own M wb.heap.size wb ov (rowAt L kl)) (hM : HL ≤ M) (hrv : ∀ b, rv.ownBlock = some b → b < M) (hB : B + 1 ≤ HL)
    (hg : wb.grownBy w3 lv.ownBlock) (hat : lv.ownBlock = some g ∨ g = wb.heap.size)
    (hown : w3.ownsRow (B + 1) 36 1 (.slice (some ⟨g, 0, none⟩) (kl + 1) cp) (kl + 1) (rl ++ [ov])) :
    NetA w B R L H kr (kl + 1) kh w3.heap.size HH (w3.setCell ⟨B, 2, none⟩ (.slice (some ⟨g, 0, none⟩) (kl + 1) cp)) rv (.slice (some ⟨g, 0, none⟩) (kl + 1) cp) hv (rl ++ [ov]) rh := by
  have hlen : (L.take kl).length = kl := by simp; omega
  have hs := hg.size
  have hsz := h.sz
  have hbl := h.bl
  have hbh := h.bh
  have hp := h.lo.push (hi' := w3.heap.size) (x := ov) (r := rowAt L kl) hB ((hx.mono hM (Nat.le_refl _)).mono (Nat.le_refl _) hs) (by omega) hg (by rw [hlen]; exact hown)
  have hb := (h.box.upd (Upd.of_grown hg) (fun e => by have := (h.lo.blk e).1; omega)).set 2 (.slice (some ⟨g, 0, none⟩) (kl + 1) cp)
  refine ⟨hb, (h.rows.keepSpine h.lo.own hg).put (by simp) _, ?_, (h.hi.keepSpine h.lo.own hg h.d3).put (by simp) _, fun b e hb => ?_, h.d2, fun b e => ?_, (h.lo.grew h.ext (by have := h.szw; omega) hg).setCell _ h.szw, by simp [World.setCell]; omega, h.szw, by simp [World.setCell], by simp [World.setCell]; omega⟩
  · rw [take_succ_row hk]; exact hp.put (by simp) _
  · rw [take_succ_row hk] at hb
    rcases rowBlks_snoc (by rw [h.lo.len]) hb with hb | ⟨hne, rfl⟩
    · exact h.d1 b e hb
    · have := hrv _ e; have := (hx.range hne).1; omega
  · simp only [Value.ownBlock, Option.some.injEq] at e
    subst e
    rcases hat with e | e
    · exact h.d3 _ e
    · intro e2; have := (h.hi.blk e2).2; omega
theorem addHi {ov : Value} {M : Nat} (h : NetA w B R L H kr kl kh HL HH wb rv lv hv rl rh) (hk : kh < H.length) (hx : Own M wb.heap.size wb ov (rowAt H kh)) (hM : HH ≤ M) (hrv : ∀ b, rv.ownBlock = some b → b < M) (hB : B + 1 ≤ HH)
    (hg : wb.grownBy w3 hv.ownBlock) (hat : hv.ownBlock = some g ∨ g = wb.heap.size)
    (hown : w3.ownsRow (B + 1) 36 1 (.slice (some ⟨g, 0, none⟩) (kh + 1) cp) (kh + 1) (rh ++ [ov])) :
    NetA w B R L H kr kl (kh + 1) HL w3.heap.size (w3.setCell ⟨B, 3, none⟩ (.slice (some ⟨g, 0, none⟩) (kh + 1) cp)) rv lv (.slice (some ⟨g, 0, none⟩) (kh + 1) cp) rl (rh ++ [ov]) := by
  have hlen : (H.take kh).length = kh := by simp; omega
  have hs := hg.size
  have hsz := h.sz
  have hbl := h.bl
  have hbh := h.bh
  have hp := h.hi.push (hi' := w3.heap.size) (x := ov) (r := rowAt H kh) hB ((hx.mono hM (Nat.le_refl _)).mono (Nat.le_refl _) hs) (by omega) hg (by rw [hlen]; exact hown)
  have hb := (h.box.upd (Upd.of_grown hg) (fun e => by have := (h.hi.blk e).1; omega)).set 3 (.slice (some ⟨g, 0, none⟩) (kh + 1) cp)
  refine ⟨hb, (h.rows.keepSpine h.hi.own hg).put (by simp) _, (h.lo.keepSpine h.hi.own hg (fun b e e2 => h.d3 b e2 e)).put (by simp) _, ?_, h.d1, fun b e hb => ?_, fun b e => ?_, (h.hi.grew h.ext (by have := h.szw; omega) hg).setCell _ h.szw, by simp [World.setCell]; omega, h.szw, by simp [World.setCell]; omega, by simp [World.setCell]⟩
  · rw [take_succ_row hk]; exact hp.put (by simp) _
  · rw [take_succ_row hk] at hb
    rcases rowBlks_snoc (by rw [h.hi.len]) hb with hb | ⟨hne, rfl⟩
    · exact h.d2 b e hb
    · have := hrv _ e; have := (hx.range hne).1; omega
  · simp only [Value.ownBlock, ne_eq, Option.some.injEq]
    intro e2; subst e2
    rcases hat with e3 | e3
    · exact h.d3 _ e e3
    · have := (h.lo.blk e).2; omega
end NetA
end Go.Proofs.Ytodnkahnbidgaaa
