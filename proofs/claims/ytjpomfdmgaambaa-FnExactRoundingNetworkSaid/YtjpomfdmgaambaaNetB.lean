/- A network that is built by append behind other slices of the call's own: what is kept, step by step. No walk here. -/
import Derived.Test.YtjpomfdmgaambaaNet
namespace Go.Proofs.Ytjpomfdmgaambaa
open Go.RowKit

/-- a network under way from the world w1 on: its first kr row sums, kl rows of lo, kh rows of hi; HL, HH: bounds of the rows' blocks; cv: what stands as its columns -/
structure NetB (w1 : World) (B : Nat) (R : List Int) (L H : List (List Int)) (kr kl kh HL HH : Nat) (wr : World) (rv cv lv hv : Value) (rl rh : List Value) : Prop where
  box : Box wr B 30 #[rv, cv, lv, hv]
  rows : IRow w1.heap.size wr rv (R.take kr)
  lo : GRow w1.heap.size HL wr lv rl (L.take kl)
  hi : GRow w1.heap.size HH wr hv rh (H.take kh)
  d1 : ∀ b, rv.ownBlock = some b → ¬ rowBlks rl (L.take kl) b
  d2 : ∀ b, rv.ownBlock = some b → ¬ rowBlks rh (H.take kh) b
  d3 : ∀ b, lv.ownBlock = some b → hv.ownBlock ≠ some b
  upd : Upd (fun b => b = B) w1 wr
  lt : B < w1.heap.size
  bl : HL ≤ wr.heap.size
  bh : HH ≤ wr.heap.size
namespace NetB
variable {w1 wo wb w3 : World} {B kr kl kh HL HH g cp : Nat} {R : List Int} {L H : List (List Int)} {rv cv lv hv : Value} {rl rh : List Value}
theorem sz (h : NetB w1 B R L H kr kl kh HL HH wo rv cv lv hv rl rh) : w1.heap.size ≤ wo.heap.size := Upd.size h.upd
theorem ext' (h : NetB w1 B R L H kr kl kh HL HH wo rv cv lv hv rl rh) (E : Ext wo wb) : NetB w1 B R L H kr kl kh HL HH wb rv cv lv hv rl rh :=
  ⟨h.box.ext E, h.rows.ext E, h.lo.ext E, h.hi.ext E, h.d1, h.d2, h.d3, h.upd.trans E.upd, h.lt, Nat.le_trans h.bl E.size, Nat.le_trans h.bh E.size⟩
/-- what is written lies in other blocks -/
theorem other {S : Nat → Prop} (h : NetB w1 B R L H kr kl kh HL HH wo rv cv lv hv rl rh) (u : Upd S wo wb) (hB : ¬ S B) (hs : ∀ b, S b → wo.heap.size ≤ b) : NetB w1 B R L H kr kl kh HL HH wb rv cv lv hv rl rh :=
  ⟨h.box.upd u hB, h.rows.upd u (fun b hb e => by have := (h.rows.blk hb).2; have := hs b e; omega), h.lo.upd u (fun b hb e => by have := (h.lo.blk hb).2; have := hs b e; omega) (fun b hb e => by have := (h.lo.rows hb).2.2; have := hs b e; omega),
    h.hi.upd u (fun b hb e => by have := (h.hi.blk hb).2; have := hs b e; omega) (fun b hb e => by have := (h.hi.rows hb).2.2; have := hs b e; omega), h.d1, h.d2, h.d3,
    h.upd.trans (u.mono (fun b hb e => by have := hs b e; omega)), h.lt, Nat.le_trans h.bl u.size, Nat.le_trans h.bh u.size⟩
theorem addRow (h : NetB w1 B R L H kr kl kh HL HH wb rv cv lv hv rl rh) (hk : kr < R.length) (hg : wb.grownBy w3 rv.ownBlock) (hat : rv.ownBlock = some g ∨ g = wb.heap.size)
    (hown : w3.ownsRow w1.heap.size 3 1 (.slice (some ⟨g, 0, none⟩) (kr + 1) cp) (kr + 1) ((R.take kr).map (Value.int .i64) ++ [.int .i64 (ix R kr)])) :
    NetB w1 B R L H (kr + 1) kl kh HL HH (w3.setCell ⟨B, 0, none⟩ (.slice (some ⟨g, 0, none⟩) (kr + 1) cp)) (.slice (some ⟨g, 0, none⟩) (kr + 1) cp) cv lv hv rl rh := by
  have hlen : (R.take kr).length = kr := by simp; omega
  have hr : IRow w1.heap.size w3 (.slice (some ⟨g, 0, none⟩) (kr + 1) cp) (R.take (kr + 1)) := by
    rw [take_succ_ix hk]
    exact IRow.push (by rw [hlen]; exact hown)
  have hs := hg.size
  have hlt := h.lt
  have hb := (h.rows.box hg hlt h.box).set 0 (.slice (some ⟨g, 0, none⟩) (kr + 1) cp)
  have hbl := h.bl
  have hbh := h.bh
  refine ⟨hb, hr.put hlt _, (h.lo.keepInts h.rows hg h.d1).put hlt _, (h.hi.keepInts h.rows hg h.d2).put hlt _, fun b e => ?_, fun b e => ?_, h.d3, (h.upd.grown hg (fun k e hk => by have := (h.rows.blk e).1; omega)).setCell _ (fun _ => rfl), hlt, by simp [World.setCell]; omega, by simp [World.setCell]; omega⟩
  · simp only [Value.ownBlock, Option.some.injEq] at e
    subst e
    rcases hat with e | e
    · exact h.d1 _ e
    · subst e; intro hb; have := (h.lo.rows hb).2.2; omega
  · simp only [Value.ownBlock, Option.some.injEq] at e
    subst e
    rcases hat with e | e
    · exact h.d2 _ e
    · subst e; intro hb; have := (h.hi.rows hb).2.2; omega
theorem addLo {ov : Value} {M : Nat} (h : NetB w1 B R L H kr kl kh HL HH wb rv cv lv hv rl rh) (hk : kl < L.length) (hx : Own M wb.heap.size wb ov (rowAt L kl)) (hM : HL ≤ M) (hrv : ∀ b, rv.ownBlock = some b → b < M) (hB : w1.heap.size ≤ HL)
    (hg : wb.grownBy w3 lv.ownBlock) (hat : lv.ownBlock = some g ∨ g = wb.heap.size)
    (hown : w3.ownsRow w1.heap.size 22 1 (.slice (some ⟨g, 0, none⟩) (kl + 1) cp) (kl + 1) (rl ++ [ov])) :
    NetB w1 B R L H kr (kl + 1) kh w3.heap.size HH (w3.setCell ⟨B, 2, none⟩ (.slice (some ⟨g, 0, none⟩) (kl + 1) cp)) rv cv (.slice (some ⟨g, 0, none⟩) (kl + 1) cp) hv (rl ++ [ov]) rh := by
  have hlen : (L.take kl).length = kl := by simp; omega
  have hs := hg.size
  have hlt := h.lt
  have hbl := h.bl
  have hbh := h.bh
  have hp := h.lo.push (hi' := w3.heap.size) (x := ov) (r := rowAt L kl) hB ((hx.mono hM (Nat.le_refl _)).mono (Nat.le_refl _) hs) (by omega) hg (by rw [hlen]; exact hown)
  have hb := (h.box.upd (Upd.of_grown hg) (fun e => by have := (h.lo.blk e).1; omega)).set 2 (.slice (some ⟨g, 0, none⟩) (kl + 1) cp)
  refine ⟨hb, (h.rows.keepSpine h.lo.own hg).put hlt _, ?_, (h.hi.keepSpine h.lo.own hg h.d3).put hlt _, fun b e hb => ?_, h.d2, fun b e => ?_, (h.upd.grown hg (fun k e hk => by have := (h.lo.blk e).1; omega)).setCell _ (fun _ => rfl), hlt, by simp [World.setCell], by simp [World.setCell]; omega⟩
  · rw [take_succ_row hk]; exact hp.put hlt _
  · rw [take_succ_row hk] at hb
    rcases rowBlks_snoc (by rw [h.lo.len]) hb with hb | ⟨hne, rfl⟩
    · exact h.d1 b e hb
    · have := hrv _ e; have := (hx.range hne).1; omega
  · simp only [Value.ownBlock, Option.some.injEq] at e
    subst e
    rcases hat with e | e
    · exact h.d3 _ e
    · intro e2; have := (h.hi.blk e2).2; omega
theorem addHi {ov : Value} {M : Nat} (h : NetB w1 B R L H kr kl kh HL HH wb rv cv lv hv rl rh) (hk : kh < H.length) (hx : Own M wb.heap.size wb ov (rowAt H kh)) (hM : HH ≤ M) (hrv : ∀ b, rv.ownBlock = some b → b < M) (hB : w1.heap.size ≤ HH)
    (hg : wb.grownBy w3 hv.ownBlock) (hat : hv.ownBlock = some g ∨ g = wb.heap.size)
    (hown : w3.ownsRow w1.heap.size 22 1 (.slice (some ⟨g, 0, none⟩) (kh + 1) cp) (kh + 1) (rh ++ [ov])) :
    NetB w1 B R L H kr kl (kh + 1) HL w3.heap.size (w3.setCell ⟨B, 3, none⟩ (.slice (some ⟨g, 0, none⟩) (kh + 1) cp)) rv cv lv (.slice (some ⟨g, 0, none⟩) (kh + 1) cp) rl (rh ++ [ov]) := by
  have hlen : (H.take kh).length = kh := by simp; omega
  have hs := hg.size
  have hlt := h.lt
  have hbl := h.bl
  have hbh := h.bh
  have hp := h.hi.push (hi' := w3.heap.size) (x := ov) (r := rowAt H kh) hB ((hx.mono hM (Nat.le_refl _)).mono (Nat.le_refl _) hs) (by omega) hg (by rw [hlen]; exact hown)
  have hb := (h.box.upd (Upd.of_grown hg) (fun e => by have := (h.hi.blk e).1; omega)).set 3 (.slice (some ⟨g, 0, none⟩) (kh + 1) cp)
  refine ⟨hb, (h.rows.keepSpine h.hi.own hg).put hlt _, (h.lo.keepSpine h.hi.own hg (fun b e e2 => h.d3 b e2 e)).put hlt _, ?_, h.d1, fun b e hb => ?_, fun b e => ?_, (h.upd.grown hg (fun k e hk => by have := (h.hi.blk e).1; omega)).setCell _ (fun _ => rfl), hlt, by simp [World.setCell]; omega, by simp [World.setCell]⟩
  · rw [take_succ_row hk]; exact hp.put hlt _
  · rw [take_succ_row hk] at hb
    rcases rowBlks_snoc (by rw [h.hi.len]) hb with hb | ⟨hne, rfl⟩
    · exact h.d2 b e hb
    · have := hrv _ e; have := (hx.range hne).1; omega
  · simp only [Value.ownBlock, ne_eq, Option.some.injEq]
    intro e2; subst e2
    rcases hat with e3 | e3
    · exact h.d3 _ e e3
    · have := (h.lo.blk e).2; omega
end NetB
end Go.Proofs.Ytjpomfdmgaambaa
