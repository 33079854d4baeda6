/- A network that is built by append; slices that grow beside it. -/
import Derived.Test.YtjpomfdmgaambaaHold
import Derived.Test.YtjpomfdmgaambaaMapG
import Derived.Test.YtjpomfdmgaambaaSums
import Derived.Test.YtjpomfdmgaambaaTr
import Derived.Laws.Append
namespace Go.Proofs.Ytjpomfdmgaambaa
open Go.RowKit

/-- a slice of ints and a slice of slices do not share a block -/
theorem ints_ne_spine {lo lo' n n' : Nat} {w : World} {v v' : Value} {xs ys : List Value} (h : w.ownsRow lo 3 1 v n xs) (h' : w.ownsRow lo' 22 1 v' n' ys) {b : Nat} (hb : v.ownBlock = some b) : v'.ownBlock ≠ some b := by
  intro hb'
  obtain ⟨_, h2⟩ := h
  obtain ⟨_, h3⟩ := h'
  rcases h2 with ⟨rfl, _⟩ | ⟨g, cap, cur, rfl, _, hg, _⟩
  · simp [Value.ownBlock] at hb
  · rcases h3 with ⟨rfl, _⟩ | ⟨g', cap', cur', rfl, _, hg', _⟩
    · simp [Value.ownBlock] at hb'
    · simp only [Value.ownBlock, Option.some.injEq] at hb hb'
      subst hb; subst hb'
      rw [hg] at hg'; simp at hg'
theorem IRow.keepSpine {lo lo' n : Nat} {w w' : World} {v v' : Value} {xs : List Int} {ys : List Value} (h : IRow lo w v xs) (hr : w.ownsRow lo' 22 1 v' n ys) (hg : w.grownBy w' v'.ownBlock) : IRow lo w' v xs :=
  h.upd (Upd.of_grown hg) (fun _ hb e => ints_ne_spine h hr hb e)
theorem IRow.keepInts {lo : Nat} {w w' : World} {v v' : Value} {xs : List Int} (h : IRow lo w v xs) (hg : w.grownBy w' v'.ownBlock) (hd : ∀ b, v'.ownBlock = some b → v.ownBlock ≠ some b) : IRow lo w' v xs :=
  h.upd (Upd.of_grown hg) (fun b hb e => hd b e hb)
theorem Own.keepSpine {lo hi lo' n : Nat} {w w' : World} {v v' : Value} {xs : List Int} {ys : List Value} (h : Own lo hi w v xs) (hr : w.ownsRow lo' 22 1 v' n ys) (hg : w.grownBy w' v'.ownBlock) : Own lo hi w' v xs :=
  h.upd (Upd.of_grown hg) (fun hx e => h.ne_ownsRow hr hx e)
theorem GRow.keepSpine {lo hi lo' n : Nat} {w w' : World} {v v' : Value} {rvs ys : List Value} {xss : List (List Int)} (h : GRow lo hi w v rvs xss) (hr : w.ownsRow lo' 22 1 v' n ys) (hg : w.grownBy w' v'.ownBlock) (hd : ∀ b, v'.ownBlock = some b → v.ownBlock ≠ some b) : GRow lo hi w' v rvs xss :=
  h.upd (Upd.of_grown hg) (fun b hb e => hd b e hb) (fun _ hb e => by
    obtain ⟨k, hk, hne, rfl⟩ := hb
    exact (h.row k hk).ne_ownsRow hr hne e)
theorem GRow.keepInts {lo hi lo' : Nat} {w w' : World} {v v' : Value} {rvs : List Value} {xss : List (List Int)} {xs : List Int} (h : GRow lo hi w v rvs xss) (hr : IRow lo' w v' xs) (hg : w.grownBy w' v'.ownBlock) (hd : ∀ b, v'.ownBlock = some b → ¬ rowBlks rvs xss b) : GRow lo hi w' v rvs xss :=
  h.upd (Upd.of_grown hg) (fun _ hb e => ints_ne_spine hr h.own e hb) (fun b hb e => hd b e hb)
/-- the rows' blocks, one row more -/
theorem rowBlks_snoc {rvs : List Value} {xss : List (List Int)} {v : Value} {r : List Int} (hl : rvs.length = xss.length) {b : Nat} (hb : rowBlks (rvs ++ [v]) (xss ++ [r]) b) : rowBlks rvs xss b ∨ (r ≠ [] ∧ b = blk v) := by
  obtain ⟨k, hk, hne, rfl⟩ := hb
  by_cases e : k < xss.length
  · left
    rw [rowAt_append_left e] at hne
    exact ⟨k, e, hne, by rw [rvAt_append_left (by omega)]⟩
  · right
    have : k = xss.length := by simp at hk; omega
    subst this
    rw [rowAt_append_len] at hne
    refine ⟨hne, ?_⟩
    have := @rvAt_append_len rvs v
    rw [hl] at this; rw [this]

/-- a network under way: its first kr row sums, kl rows of lo, kh rows of hi; HL, HH: bounds of the rows' blocks -/
structure NetA (w : World) (B : Nat) (R : List Int) (L H : List (List Int)) (kr kl kh HL HH : Nat) (wr : World) (rv lv hv : Value) (rl rh : List Value) : Prop where
  box : Box wr B 30 #[rv, .slice none 0 0, lv, hv]
  rows : IRow (B + 1) wr rv (R.take kr)
  lo : GRow (B + 1) HL wr lv rl (L.take kl)
  hi : GRow (B + 1) HH wr hv rh (H.take kh)
  d1 : ∀ b, rv.ownBlock = some b → ¬ rowBlks rl (L.take kl) b
  d2 : ∀ b, rv.ownBlock = some b → ¬ rowBlks rh (H.take kh) b
  d3 : ∀ b, lv.ownBlock = some b → hv.ownBlock ≠ some b
  ext : Ext w wr
  sz : B + 1 ≤ wr.heap.size
  szw : w.heap.size ≤ B
  bl : HL ≤ wr.heap.size
  bh : HH ≤ wr.heap.size
namespace NetA
variable {w wo wb w3 : World} {B kr kl kh HL HH g cp : Nat} {R : List Int} {L H : List (List Int)} {rv lv hv : Value} {rl rh : List Value}
theorem ext' (h : NetA w B R L H kr kl kh HL HH wo rv lv hv rl rh) (E : Ext wo wb) : NetA w B R L H kr kl kh HL HH wb rv lv hv rl rh :=
  ⟨h.box.ext E, h.rows.ext E, h.lo.ext E, h.hi.ext E, h.d1, h.d2, h.d3, h.ext.trans E, Nat.le_trans h.sz E.size, h.szw, Nat.le_trans h.bl E.size, Nat.le_trans h.bh E.size⟩
theorem addRow (h : NetA w B R L H kr kl kh HL HH wb rv lv hv rl rh) (hk : kr < R.length) (hg : wb.grownBy w3 rv.ownBlock) (hat : rv.ownBlock = some g ∨ g = wb.heap.size)
    (hown : w3.ownsRow (B + 1) 3 1 (.slice (some ⟨g, 0, none⟩) (kr + 1) cp) (kr + 1) ((R.take kr).map (Value.int .i64) ++ [.int .i64 (ix R kr)])) :
    NetA w B R L H (kr + 1) kl kh HL HH (w3.setCell ⟨B, 0, none⟩ (.slice (some ⟨g, 0, none⟩) (kr + 1) cp)) (.slice (some ⟨g, 0, none⟩) (kr + 1) cp) lv hv rl rh := by
  have hlen : (R.take kr).length = kr := by simp; omega
  have hr : IRow (B + 1) w3 (.slice (some ⟨g, 0, none⟩) (kr + 1) cp) (R.take (kr + 1)) := by
    rw [take_succ_ix hk]
    exact IRow.push (by rw [hlen]; exact hown)
  have hs := hg.size
  have hb := (h.rows.box hg (by omega) h.box).set 0 (.slice (some ⟨g, 0, none⟩) (kr + 1) cp)
  have h1 := h.sz
  have hbl := h.bl
  have hbh := h.bh
  refine ⟨hb, hr.put (by simp) _, (h.lo.keepInts h.rows hg h.d1).put (by simp) _, (h.hi.keepInts h.rows hg h.d2).put (by simp) _, fun b e => ?_, fun b e => ?_, h.d3, (h.rows.grew h.ext (by have := h.szw; omega) hg).setCell _ h.szw, by simp [World.setCell]; omega, h.szw, by simp [World.setCell]; omega, by simp [World.setCell]; omega⟩
  · simp only [Value.ownBlock, Option.some.injEq] at e
    subst e
    rcases hat with e | e
    · exact h.d1 _ e
    · subst e; intro hb; have := (h.lo.rows hb).2.2; omega
  · simp only [Value.ownBlock, Option.some.injEq] at e
    subst e
    rcases hat with e | e
    · exact h.d2 _ e
    · subst e; intro hb; have := (h.hi.rows hb).2.2; omega
theorem addLo {ov : Value} {M : Nat} (h : NetA w B R L H kr kl kh HL HH wb rv lv hv rl rh) (hk : kl < L.length) (hx : Own M wb.heap.size wb ov (rowAt L kl)) (hM : HL ≤ M) (hrv : ∀ b, rv.ownBlock = some b → b < M) (hB : B + 1 ≤ HL)
    (hg : wb.grownBy w3 lv.ownBlock) (hat : lv.ownBlock = some g ∨ g = wb.heap.size)
    (hown : w3.ownsRow (B + 1) 22 1 (.slice (some ⟨g, 0, none⟩) (kl + 1) cp) (kl + 1) (rl ++ [ov])) :
    NetA w B R L H kr (kl + 1) kh w3.heap.size HH (w3.setCell ⟨B, 2, none⟩ (.slice (some ⟨g, 0, none⟩) (kl + 1) cp)) rv (.slice (some ⟨g, 0, none⟩) (kl + 1) cp) hv (rl ++ [ov]) rh := by
  have hlen : (L.take kl).length = kl := by simp; omega
  have hs := hg.size
  have hsz := h.sz
  have hbl := h.bl
  have hbh := h.bh
  have hp := h.lo.push (hi' := w3.heap.size) (x := ov) (r := rowAt L kl) hB ((hx.mono hM (Nat.le_refl _)).mono (Nat.le_refl _) hs) (by omega) hg (by rw [hlen]; exact hown)
  have hb := (h.box.upd (Upd.of_grown hg) (fun e => by have := (h.lo.blk e).1; omega)).set 2 (.slice (some ⟨g, 0, none⟩) (kl + 1) cp)
  refine ⟨hb, (h.rows.keepSpine h.lo.own hg).put (by simp) _, ?_, (h.hi.keepSpine h.lo.own hg h.d3).put (by simp) _, fun b e hb => ?_, h.d2, fun b e => ?_, (h.lo.grew h.ext (by have := h.szw; omega) hg).setCell _ h.szw, by simp [World.setCell]; omega, h.szw, by simp [World.setCell], by simp [World.setCell]; omega⟩
  · rw [take_succ_row hk]; exact hp.put (by simp) _
  · rw [take_succ_row hk] at hb
    rcases rowBlks_snoc (by rw [h.lo.len]) hb with hb | ⟨hne, rfl⟩
    · exact h.d1 b e hb
    · have := hrv _ e; have := (hx.range hne).1; omega
  · simp only [Value.ownBlock, Option.some.injEq] at e
    subst e
    rcases hat with e | e
    · exact h.d3 _ e
    · intro e2; have := (h.hi.blk e2).2; omega
theorem addHi {ov : Value} {M : Nat} (h : NetA w B R L H kr kl kh HL HH wb rv lv hv rl rh) (hk : kh < H.length) (hx : Own M wb.heap.size wb ov (rowAt H kh)) (hM : HH ≤ M) (hrv : ∀ b, rv.ownBlock = some b → b < M) (hB : B + 1 ≤ HH)
    (hg : wb.grownBy w3 hv.ownBlock) (hat : hv.ownBlock = some g ∨ g = wb.heap.size)
    (hown : w3.ownsRow (B + 1) 22 1 (.slice (some ⟨g, 0, none⟩) (kh + 1) cp) (kh + 1) (rh ++ [ov])) :
    NetA w B R L H kr kl (kh + 1) HL w3.heap.size (w3.setCell ⟨B, 3, none⟩ (.slice (some ⟨g, 0, none⟩) (kh + 1) cp)) rv lv (.slice (some ⟨g, 0, none⟩) (kh + 1) cp) rl (rh ++ [ov]) := by
  have hlen : (H.take kh).length = kh := by simp; omega
  have hs := hg.size
  have hsz := h.sz
  have hbl := h.bl
  have hbh := h.bh
  have hp := h.hi.push (hi' := w3.heap.size) (x := ov) (r := rowAt H kh) hB ((hx.mono hM (Nat.le_refl _)).mono (Nat.le_refl _) hs) (by omega) hg (by rw [hlen]; exact hown)
  have hb := (h.box.upd (Upd.of_grown hg) (fun e => by have := (h.hi.blk e).1; omega)).set 3 (.slice (some ⟨g, 0, none⟩) (kh + 1) cp)
  refine ⟨hb, (h.rows.keepSpine h.hi.own hg).put (by simp) _, (h.lo.keepSpine h.hi.own hg (fun b e e2 => h.d3 b e2 e)).put (by simp) _, ?_, h.d1, fun b e hb => ?_, fun b e => ?_, (h.hi.grew h.ext (by have := h.szw; omega) hg).setCell _ h.szw, by simp [World.setCell]; omega, h.szw, by simp [World.setCell]; omega, by simp [World.setCell]⟩
  · rw [take_succ_row hk]; exact hp.put (by simp) _
  · rw [take_succ_row hk] at hb
    rcases rowBlks_snoc (by rw [h.hi.len]) hb with hb | ⟨hne, rfl⟩
    · exact h.d2 b e hb
    · have := hrv _ e; have := (hx.range hne).1; omega
  · simp only [Value.ownBlock, ne_eq, Option.some.injEq]
    intro e2; subst e2
    rcases hat with e3 | e3
    · exact h.d3 _ e e3
    · have := (h.lo.blk e).2; omega
end NetA
end Go.Proofs.Ytjpomfdmgaambaa
namespace Go.Proofs.Ytjpomfdmgaambaa
open Go.RowKit

/-- two slices of ints that grow side by side in blocks of their own -/
structure Two (wM wr : World) (a b : Value) (xs ys : List Int) : Prop where
  ra : IRow wM.heap.size wr a xs
  rb : IRow wM.heap.size wr b ys
  d : ∀ c, a.ownBlock = some c → b.ownBlock ≠ some c
  ext : Ext wM wr
namespace Two
variable {wM wr wb w3 : World} {a b : Value} {xs ys : List Int} {g n cp : Nat} {x : Int}
theorem nil (w : World) : Two w w (.slice none 0 0) (.slice none 0 0) [] [] := ⟨IRow.nil, IRow.nil, fun c h => by simp [Value.ownBlock] at h, Ext.refl w⟩
theorem ext' (h : Two wM wr a b xs ys) (E : Ext wr wb) : Two wM wb a b xs ys := ⟨h.ra.ext E, h.rb.ext E, h.d, h.ext.trans E⟩
theorem addA (h : Two wM wb a b xs ys) (hn : xs.length = n) (hg : wb.grownBy w3 a.ownBlock) (hat : a.ownBlock = some g ∨ g = wb.heap.size)
    (hown : w3.ownsRow wM.heap.size 3 1 (.slice (some ⟨g, 0, none⟩) (n + 1) cp) (n + 1) (xs.map (Value.int .i64) ++ [.int .i64 x])) : Two wM w3 (.slice (some ⟨g, 0, none⟩) (n + 1) cp) b (xs ++ [x]) ys :=
  ⟨IRow.push (by rw [hn]; exact hown), h.rb.keepInts hg h.d, fun c e => by
    simp only [Value.ownBlock, Option.some.injEq] at e
    subst e
    rcases hat with e | e
    · exact h.d _ e
    · intro e2; have := (h.rb.blk e2).2; omega, h.ra.grew h.ext (Nat.le_refl _) hg⟩
theorem swap (h : Two wM wr a b xs ys) : Two wM wr b a ys xs := ⟨h.rb, h.ra, fun c e e2 => h.d c e2 e, h.ext⟩
end Two
end Go.Proofs.Ytjpomfdmgaambaa
namespace Go.Proofs.Ytjpomfdmgaambaa
open Go.RowKit

/-- a network under way from the world w1 on: its first kr row sums, kl rows of lo, kh rows of hi; HL, HH: bounds of the rows' blocks; cv: what stands as its columns -/
structure NetB (w1 : World) (B : Nat) (R : List Int) (L H : List (List Int)) (kr kl kh HL HH : Nat) (wr : World) (rv cv lv hv : Value) (rl rh : List Value) : Prop where
  box : Box wr B 30 #[rv, cv, lv, hv]
  rows : IRow w1.heap.size wr rv (R.take kr)
  lo : GRow w1.heap.size HL wr lv rl (L.take kl)
  hi : GRow w1.heap.size HH wr hv rh (H.take kh)
  d1 : ∀ b, rv.ownBlock = some b → ¬ rowBlks rl (L.take kl) b
  d2 : ∀ b, rv.ownBlock = some b → ¬ rowBlks rh (H.take kh) b
  d3 : ∀ b, lv.ownBlock = some b → hv.ownBlock ≠ some b
  upd : Upd (fun b => b = B) w1 wr
  lt : B < w1.heap.size
  bl : HL ≤ wr.heap.size
  bh : HH ≤ wr.heap.size
namespace NetB
variable {w1 wo wb w3 : World} {B kr kl kh HL HH g cp : Nat} {R : List Int} {L H : List (List Int)} {rv cv lv hv : Value} {rl rh : List Value}
theorem sz (h : NetB w1 B R L H kr kl kh HL HH wo rv cv lv hv rl rh) : w1.heap.size ≤ wo.heap.size := Upd.size h.upd
theorem ext' (h : NetB w1 B R L H kr kl kh HL HH wo rv cv lv hv rl rh) (E : Ext wo wb) : NetB w1 B R L H kr kl kh HL HH wb rv cv lv hv rl rh :=
  ⟨h.box.ext E, h.rows.ext E, h.lo.ext E, h.hi.ext E, h.d1, h.d2, h.d3, h.upd.trans E.upd, h.lt, Nat.le_trans h.bl E.size, Nat.le_trans h.bh E.size⟩
/-- what is written lies in other blocks -/
theorem other {S : Nat → Prop} (h : NetB w1 B R L H kr kl kh HL HH wo rv cv lv hv rl rh) (u : Upd S wo wb) (hB : ¬ S B) (hs : ∀ b, S b → wo.heap.size ≤ b) : NetB w1 B R L H kr kl kh HL HH wb rv cv lv hv rl rh :=
  ⟨h.box.upd u hB, h.rows.upd u (fun b hb e => by have := (h.rows.blk hb).2; have := hs b e; omega), h.lo.upd u (fun b hb e => by have := (h.lo.blk hb).2; have := hs b e; omega) (fun b hb e => by have := (h.lo.rows hb).2.2; have := hs b e; omega),
    h.hi.upd u (fun b hb e => by have := (h.hi.blk hb).2; have := hs b e; omega) (fun b hb e => by have := (h.hi.rows hb).2.2; have := hs b e; omega), h.d1, h.d2, h.d3,
    h.upd.trans (u.mono (fun b hb e => by have := hs b e; omega)), h.lt, Nat.le_trans h.bl u.size, Nat.le_trans h.bh u.size⟩
theorem addRow (h : NetB w1 B R L H kr kl kh HL HH wb rv cv lv hv rl rh) (hk : kr < R.length) (hg : wb.grownBy w3 rv.ownBlock) (hat : rv.ownBlock = some g ∨ g = wb.heap.size)
    (hown : w3.ownsRow w1.heap.size 3 1 (.slice (some ⟨g, 0, none⟩) (kr + 1) cp) (kr + 1) ((R.take kr).map (Value.int .i64) ++ [.int .i64 (ix R kr)])) :
    NetB w1 B R L H (kr + 1) kl kh HL HH (w3.setCell ⟨B, 0, none⟩ (.slice (some ⟨g, 0, none⟩) (kr + 1) cp)) (.slice (some ⟨g, 0, none⟩) (kr + 1) cp) cv lv hv rl rh := by
  have hlen : (R.take kr).length = kr := by simp; omega
  have hr : IRow w1.heap.size w3 (.slice (some ⟨g, 0, none⟩) (kr + 1) cp) (R.take (kr + 1)) := by
    rw [take_succ_ix hk]
    exact IRow.push (by rw [hlen]; exact hown)
  have hs := hg.size
  have hlt := h.lt
  have hb := (h.rows.box hg hlt h.box).set 0 (.slice (some ⟨g, 0, none⟩) (kr + 1) cp)
  have hbl := h.bl
  have hbh := h.bh
  refine ⟨hb, hr.put hlt _, (h.lo.keepInts h.rows hg h.d1).put hlt _, (h.hi.keepInts h.rows hg h.d2).put hlt _, fun b e => ?_, fun b e => ?_, h.d3, (h.upd.grown hg (fun k e hk => by have := (h.rows.blk e).1; omega)).setCell _ (fun _ => rfl), hlt, by simp [World.setCell]; omega, by simp [World.setCell]; omega⟩
  · simp only [Value.ownBlock, Option.some.injEq] at e
    subst e
    rcases hat with e | e
    · exact h.d1 _ e
    · subst e; intro hb; have := (h.lo.rows hb).2.2; omega
  · simp only [Value.ownBlock, Option.some.injEq] at e
    subst e
    rcases hat with e | e
    · exact h.d2 _ e
    · subst e; intro hb; have := (h.hi.rows hb).2.2; omega
theorem addLo {ov : Value} {M : Nat} (h : NetB w1 B R L H kr kl kh HL HH wb rv cv lv hv rl rh) (hk : kl < L.length) (hx : Own M wb.heap.size wb ov (rowAt L kl)) (hM : HL ≤ M) (hrv : ∀ b, rv.ownBlock = some b → b < M) (hB : w1.heap.size ≤ HL)
    (hg : wb.grownBy w3 lv.ownBlock) (hat : lv.ownBlock = some g ∨ g = wb.heap.size)
    (hown : w3.ownsRow w1.heap.size 22 1 (.slice (some ⟨g, 0, none⟩) (kl + 1) cp) (kl + 1) (rl ++ [ov])) :
    NetB w1 B R L H kr (kl + 1) kh w3.heap.size HH (w3.setCell ⟨B, 2, none⟩ (.slice (some ⟨g, 0, none⟩) (kl + 1) cp)) rv cv (.slice (some ⟨g, 0, none⟩) (kl + 1) cp) hv (rl ++ [ov]) rh := by
  have hlen : (L.take kl).length = kl := by simp; omega
  have hs := hg.size
  have hlt := h.lt
  have hbl := h.bl
  have hbh := h.bh
  have hp := h.lo.push (hi' := w3.heap.size) (x := ov) (r := rowAt L kl) hB ((hx.mono hM (Nat.le_refl _)).mono (Nat.le_refl _) hs) (by omega) hg (by rw [hlen]; exact hown)
  have hb := (h.box.upd (Upd.of_grown hg) (fun e => by have := (h.lo.blk e).1; omega)).set 2 (.slice (some ⟨g, 0, none⟩) (kl + 1) cp)
  refine ⟨hb, (h.rows.keepSpine h.lo.own hg).put hlt _, ?_, (h.hi.keepSpine h.lo.own hg h.d3).put hlt _, fun b e hb => ?_, h.d2, fun b e => ?_, (h.upd.grown hg (fun k e hk => by have := (h.lo.blk e).1; omega)).setCell _ (fun _ => rfl), hlt, by simp [World.setCell], by simp [World.setCell]; omega⟩
  · rw [take_succ_row hk]; exact hp.put hlt _
  · rw [take_succ_row hk] at hb
    rcases rowBlks_snoc (by rw [h.lo.len]) hb with hb | ⟨hne, rfl⟩
    · exact h.d1 b e hb
    · have := hrv _ e; have := (hx.range hne).1; omega
  · simp only [Value.ownBlock, Option.some.injEq] at e
    subst e
    rcases hat with e | e
    · exact h.d3 _ e
    · intro e2; have := (h.hi.blk e2).2; omega
theorem addHi {ov : Value} {M : Nat} (h : NetB w1 B R L H kr kl kh HL HH wb rv cv lv hv rl rh) (hk : kh < H.length) (hx : Own M wb.heap.size wb ov (rowAt H kh)) (hM : HH ≤ M) (hrv : ∀ b, rv.ownBlock = some b → b < M) (hB : w1.heap.size ≤ HH)
    (hg : wb.grownBy w3 hv.ownBlock) (hat : hv.ownBlock = some g ∨ g = wb.heap.size)
    (hown : w3.ownsRow w1.heap.size 22 1 (.slice (some ⟨g, 0, none⟩) (kh + 1) cp) (kh + 1) (rh ++ [ov])) :
    NetB w1 B R L H kr kl (kh + 1) HL w3.heap.size (w3.setCell ⟨B, 3, none⟩ (.slice (some ⟨g, 0, none⟩) (kh + 1) cp)) rv cv lv (.slice (some ⟨g, 0, none⟩) (kh + 1) cp) rl (rh ++ [ov]) := by
  have hlen : (H.take kh).length = kh := by simp; omega
  have hs := hg.size
  have hlt := h.lt
  have hbl := h.bl
  have hbh := h.bh
  have hp := h.hi.push (hi' := w3.heap.size) (x := ov) (r := rowAt H kh) hB ((hx.mono hM (Nat.le_refl _)).mono (Nat.le_refl _) hs) (by omega) hg (by rw [hlen]; exact hown)
  have hb := (h.box.upd (Upd.of_grown hg) (fun e => by have := (h.hi.blk e).1; omega)).set 3 (.slice (some ⟨g, 0, none⟩) (kh + 1) cp)
  refine ⟨hb, (h.rows.keepSpine h.hi.own hg).put hlt _, (h.lo.keepSpine h.hi.own hg (fun b e e2 => h.d3 b e2 e)).put hlt _, ?_, h.d1, fun b e hb => ?_, fun b e => ?_, (h.upd.grown hg (fun k e hk => by have := (h.hi.blk e).1; omega)).setCell _ (fun _ => rfl), hlt, by simp [World.setCell]; omega, by simp [World.setCell]⟩
  · rw [take_succ_row hk]; exact hp.put hlt _
  · rw [take_succ_row hk] at hb
    rcases rowBlks_snoc (by rw [h.hi.len]) hb with hb | ⟨hne, rfl⟩
    · exact h.d2 b e hb
    · have := hrv _ e; have := (hx.range hne).1; omega
  · simp only [Value.ownBlock, ne_eq, Option.some.injEq]
    intro e2; subst e2
    rcases hat with e3 | e3
    · exact h.d3 _ e e3
    · have := (h.lo.blk e).2; omega
end NetB
end Go.Proofs.Ytjpomfdmgaambaa
namespace Go.Proofs.Ytjpomfdmgaambaa
open Go.RowKit

/-- the block of a slice that has room -/
def rb : Value → Option Nat
  | .slice _ _ 0 => none
  | v => v.ownBlock
/-- a slice of ints in a block of the call's own, or one without room -/
def RowZ (lo : Nat) (w : World) (v : Value) (xs : List Int) : Prop := IRow lo w v xs ∨ (xs = [] ∧ ∃ b, v = .slice b 0 0)
namespace RowZ
variable {lo : Nat} {w w' : World} {v : Value} {xs : List Int}
theorem split (h : RowZ lo w v xs) : (IRow lo w v xs ∧ rb v = v.ownBlock) ∨ (xs = [] ∧ rb v = none ∧ ∃ b, v = .slice b 0 0) := by
  rcases h with h | ⟨h1, b, rfl⟩
  · rcases h.2 with ⟨rfl, h0⟩ | ⟨g, cap, cur, rfl, hb, hg, hnc, rest⟩
    · exact .inr ⟨List.eq_nil_of_length_eq_zero h0, rfl, none, rfl⟩
    · cases cap with
      | zero => 
        have h0 : xs = [] := List.eq_nil_of_length_eq_zero (by omega)
        subst h0
        exact .inr ⟨rfl, rfl, _, rfl⟩
      | succ c => exact .inl ⟨h, rfl⟩
  · exact .inr ⟨h1, rfl, b, rfl⟩
theorem row (h : RowZ lo w v xs) (hx : xs ≠ []) : IRow lo w v xs := by
  rcases h with h | ⟨h1, _⟩
  · exact h
  · exact absurd h1 hx
theorem blk (h : RowZ lo w v xs) {b : Nat} (hb : rb v = some b) : lo ≤ b ∧ b < w.heap.size := by
  rcases h.split with ⟨h1, h2⟩ | ⟨_, h2, _⟩
  · exact h1.blk (h2 ▸ hb)
  · rw [h2] at hb; cases hb
theorem upd {S : Nat → Prop} (h : RowZ lo w v xs) (u : Upd S w w') (hs : ∀ b, rb v = some b → ¬ S b) : RowZ lo w' v xs := by
  rcases h.split with ⟨h1, h2⟩ | ⟨h1, _, h3⟩
  · exact .inl (h1.upd u (fun b hb => hs b (h2 ▸ hb)))
  · exact .inr ⟨h1, h3⟩
theorem ext (h : RowZ lo w v xs) (u : Ext w w') : RowZ lo w' v xs := h.upd u (fun _ _ s => s)
theorem put (h : RowZ lo w v xs) {a : Addr} (ha : a.block < lo) (x : Value) : RowZ lo (w.setCell a x) v xs :=
  h.upd (S := fun b => b = a.block) ((Upd.refl w).setCell x (fun _ => rfl)) (fun b hb e => by have := (h.blk hb).1; omega)
theorem form (h : RowZ lo w v xs) : ∃ a c, v = .slice a xs.length c := by
  rcases h with h | ⟨h1, b, rfl⟩
  · exact h.form
  · subst h1; exact ⟨b, 0, rfl⟩
end RowZ
theorem rb_own {g n cap : Nat} {b : Nat} (h : rb (.slice (some ⟨g, 0, none⟩) n cap) = some b) : b = g := by
  cases cap with
  | zero => cases h
  | succ c => simpa [rb, Value.ownBlock, eq_comm] using h

theorem run_append_cap0 {P : Program} (w : World) (t ty e : TypeId) (i : TypeInfo) (z : Value) (ht : P.underlying t = some (.slice e)) (hi : P.info? e = some i) (hz : i.zero = some z) (hsz : i.size = 1) (b : Option Addr)
    (a : Addr) (c : Nat) (u : Value) (hu : w.cell? (a.add 0) = some u) (hb : i.bytes ≤ 281474976710656) :
    (Builtin.append_ #[t, t] ty #[.slice b 0 0, .slice (some a) 1 c]).run P w = (Builtin.append_ #[t, t] ty #[.slice none 0 0, .slice (some a) 1 c]).run P w := by
  cases b with
  | none => rfl
  | some b =>
    have hn : ∀ j v, [u][j]? = some v → w.cell? (a.add j) = some v := fun j v hj => by
      cases j with
      | zero => simp at hj; rw [← hj]; exact hu
      | succ j => simp at hj
    rw [run_append_grow w t ty e i z ht hi hz b 0 0 [] (by simp) (fun j v hj => by simp at hj) a 1 c [u] (by simp [hsz]) hn (by omega) (by omega) (by rw [show Builtin.nextslicecap (0 + 1) 0 = 1 from rfl]; omega),
      run_append_nil w t ty e i z ht hi hz a 1 c [u] (by simp [hsz]) hn (by omega) (by omega) (by omega)]
    simp

section
variable {P : Program} (w : World)
theorem run_appZ (t ty : TypeId) (lo : Nat) (z : Value) (bytes : Nat) (ht : P.underlying t = some (.slice 3))
    (hinfo : (P.info? 3).map (fun i => (i.zero, i.size, i.bytes)) = some (some z, 1, bytes)) (hzs : z.cells.size = 1)
    (v : Value) (xs : List Int) (hown : RowZ lo w v xs) (B c T : Nat) (x : Int) (hb : Box w B T #[.int .i64 x])
    (hn : xs.length < 9223372036854775807) (hbytes : (xs.length + 1) * bytes ≤ 140737488355328) (hlo : lo ≤ w.heap.size) :
    ∃ g cap w', (Builtin.append_ #[t, t] ty #[v, .slice (some ⟨B, 0, none⟩) 1 c]).run P w = .ok (.slice (some ⟨g, 0, none⟩) (xs.length + 1) cap) w' ∧
      IRow lo w' (.slice (some ⟨g, 0, none⟩) (xs.length + 1) cap) (xs ++ [x]) ∧ w.grownBy w' (rb v) ∧ (rb v = some g ∨ g = w.heap.size) ∧ g < w'.heap.size := by
  obtain ⟨i, hi, hz0, hz1, hz2⟩ := info_parts hinfo
  have h1 : ∀ y ∈ [Value.int .i64 x], y.oneCell' = true := by intro y hy; simp at hy; subst hy; rfl
  rcases hown.split with ⟨h, e⟩ | ⟨rfl, e, b, rfl⟩
  · obtain ⟨g, cap, w', hr, h2, h3, h4, h5⟩ := run_append_lies (P := P) w t ty lo 3 i z 1 bytes ht hi hz0 hz1 hz2 hzs (by omega) v xs.length (xs.map (Value.int .i64)) h ⟨B, 0, none⟩ 1 c [.int .i64 x] rfl (World.news_of_block hb) h1
      (by omega) (by simp [maxLen]; omega) hbytes hlo w.heap.size rfl
    exact ⟨g, cap, w', hr, IRow.push h2, e ▸ h3, e ▸ h4, h5⟩
  · obtain ⟨g, cap, w', hr, h2, h3, h4, h5⟩ := run_append_lies (P := P) w t ty lo 3 i z 1 bytes ht hi hz0 hz1 hz2 hzs (by omega) (.slice none 0 0) 0 [] (World.ownsRow_nil _ _ _ _) ⟨B, 0, none⟩ 1 c [.int .i64 x] rfl (World.news_of_block hb) h1
      (by omega) (by simp [maxLen]) hbytes hlo w.heap.size rfl
    refine ⟨g, cap, w', ?_, IRow.push (xs := []) h2, e ▸ h3, e ▸ h4, h5⟩
    rw [run_append_cap0 w t ty 3 i z ht hi hz0 hz1 b ⟨B, 0, none⟩ c (.int .i64 x) (World.news_of_block hb 0 _ rfl) (by simp only [List.length_nil] at hbytes; omega)]
    exact hr
theorem wp_appZ {o : Oper} {a : Act} {K : Act → World → Prop} {Q : Exit → Act → World → Prop} (s x : Operand) (t : TypeId)
    (ho : o.op = .call { callee := .builtin .append, args := #[s, x], argTypes := #[t, t] }) (lo : Nat) (z : Value) (bytes : Nat) (ht : P.underlying t = some (.slice 3))
    (hinfo : (P.info? 3).map (fun i => (i.zero, i.size, i.bytes)) = some (some z, 1, bytes)) (hzs : z.cells.size = 1)
    (v : Value) (n : Nat) (xs : List Int) (hs : a.eval s = v) (hown : RowZ lo w v xs) (hl : xs.length = n) (B c T : Nat) (y : Int) (hx : a.eval x = .slice (some ⟨B, 0, none⟩) 1 c) (hb : Box w B T #[.int .i64 y])
    (hn : n < 9223372036854775807) (hbytes : (n + 1) * bytes ≤ 140737488355328) (hlo : lo ≤ w.heap.size)
    (h : ∀ g cap w', IRow lo w' (.slice (some ⟨g, 0, none⟩) (n + 1) cap) (xs ++ [y]) → w.grownBy w' (rb v) → (rb v = some g ∨ g = w.heap.size) → g < w'.heap.size → K (a.put o.dst (.slice (some ⟨g, 0, none⟩) (n + 1) cap)) w') : o.wp P a w K Q := by
  subst hl
  obtain ⟨g, cap, w', hr, h2, h3, h4, h5⟩ := run_appZ (P := P) w t o.type lo z bytes ht hinfo hzs v xs hown B c T y hb hn hbytes hlo
  unfold Oper.wp execOp
  simp only [ho, resolve, invoke, builtin, Sem.run_bind, Sem.run_pure, Result.andThen_ok, List.map_toArray, List.map_cons, List.map_nil, hs, hx, hr]
  exact h g cap w' h2 h3 h4 h5
theorem appZ {ops : Array Oper} {rest : List Oper} {o : Oper} {a : Act} {Q : Exit → Act → World → Prop} (hgd : o.guard = none) (s x : Operand) (t : TypeId)
    (ho : o.op = .call { callee := .builtin .append, args := #[s, x], argTypes := #[t, t] }) (lo : Nat) (z : Value) (bytes : Nat) (ht : P.underlying t = some (.slice 3))
    (hinfo : (P.info? 3).map (fun i => (i.zero, i.size, i.bytes)) = some (some z, 1, bytes)) (hzs : z.cells.size = 1)
    (v : Value) (n : Nat) (xs : List Int) (hs : a.eval s = v) (hown : RowZ lo w v xs) (hl : xs.length = n) (B c T : Nat) (y : Int) (hx : a.eval x = .slice (some ⟨B, 0, none⟩) 1 c) (hb : Box w B T #[.int .i64 y])
    (hn : n < 9223372036854775807) (hbytes : (n + 1) * bytes ≤ 140737488355328) (hlo : lo ≤ w.heap.size)
    (h : ∀ g cap w', IRow lo w' (.slice (some ⟨g, 0, none⟩) (n + 1) cap) (xs ++ [y]) → w.grownBy w' (rb v) → (rb v = some g ∨ g = w.heap.size) → g < w'.heap.size → wpList P ops Q rest (a.put o.dst (.slice (some ⟨g, 0, none⟩) (n + 1) cap)) w') : wpList P ops Q (o :: rest) a w :=
  wpList_plain hgd fun _ hK => wp_appZ w s x t ho lo z bytes ht hinfo hzs v n xs hs hown hl B c T y hx hb hn hbytes hlo fun g cap w' h2 h3 h4 h5 => hK _ _ (h g cap w' h2 h3 h4 h5)
theorem appZs {ops : Array Oper} {o : Oper} {a : Act} {K : Act → World → Prop} {Q : Exit → Act → World → Prop} {E : Prop} (hgd : o.guard = none) (s x : Operand) (t : TypeId)
    (ho : o.op = .call { callee := .builtin .append, args := #[s, x], argTypes := #[t, t] }) (lo : Nat) (z : Value) (bytes : Nat) (ht : P.underlying t = some (.slice 3))
    (hinfo : (P.info? 3).map (fun i => (i.zero, i.size, i.bytes)) = some (some z, 1, bytes)) (hzs : z.cells.size = 1)
    (v : Value) (n : Nat) (xs : List Int) (hs : a.eval s = v) (hown : RowZ lo w v xs) (hl : xs.length = n) (B c T : Nat) (y : Int) (hx : a.eval x = .slice (some ⟨B, 0, none⟩) 1 c) (hb : Box w B T #[.int .i64 y])
    (hn : n < 9223372036854775807) (hbytes : (n + 1) * bytes ≤ 140737488355328) (hlo : lo ≤ w.heap.size)
    (h : ∀ g cap w', IRow lo w' (.slice (some ⟨g, 0, none⟩) (n + 1) cap) (xs ++ [y]) → w.grownBy w' (rb v) → (rb v = some g ∨ g = w.heap.size) → g < w'.heap.size → K (a.put o.dst (.slice (some ⟨g, 0, none⟩) (n + 1) cap)) w') :
    if Region.wanted o (yielded ops a.tmps) = true then Oper.wp P o a w K Q else E := by
  have hw : Region.wanted o (yielded ops a.tmps) = true := by simp [Region.wanted, hgd]
  rw [if_pos hw]
  exact wp_appZ w s x t ho lo z bytes ht hinfo hzs v n xs hs hown hl B c T y hx hb hn hbytes hlo h
end
end Go.Proofs.Ytjpomfdmgaambaa
namespace Go.Proofs.Ytjpomfdmgaambaa
open Go.RowKit

/-- a slice of slices is not touched where a slice of ints grows -/
theorem spineZ {lo lo' n : Nat} {w w' : World} {v v' : Value} {xs : List Int} {ys : List Value} (h : w.ownsRow lo' 22 1 v' n ys) (hr : RowZ lo w v xs) (hg : w.grownBy w' (rb v)) : w'.ownsRow lo' 22 1 v' n ys :=
  ownsRow_upd h (Upd.of_grown hg) (fun b hb e => by
    rcases hr.split with ⟨h1, h2⟩ | ⟨_, h2, _⟩
    · exact ints_ne_spine h1 h (h2 ▸ e) hb
    · rw [h2] at e; cases e)
namespace NetB
variable {w1 wo wb w3 : World} {B kr kl kh HL HH g cp lo : Nat} {R xs : List Int} {L H : List (List Int)} {rv cv lv hv v : Value} {rl rh : List Value}
theorem cols {c0 : Value} (h : NetB w1 B R L H kr kl kh HL HH wo rv c0 lv hv rl rh) (u : Upd (fun b => b = B) wo wb) (hb : Box wb B 30 #[rv, cv, lv, hv]) : NetB w1 B R L H kr kl kh HL HH wb rv cv lv hv rl rh := by
  have hlt := h.lt
  exact ⟨hb, h.rows.upd u (fun b hb e => by have := (h.rows.blk hb).1; omega), h.lo.upd u (fun b hb e => by have := (h.lo.blk hb).1; omega) (fun b hb e => by have := (h.lo.rows hb).1; omega),
    h.hi.upd u (fun b hb e => by have := (h.hi.blk hb).1; omega) (fun b hb e => by have := (h.hi.rows hb).1; omega), h.d1, h.d2, h.d3, h.upd.trans u, hlt, Nat.le_trans h.bl u.size, Nat.le_trans h.bh u.size⟩
/-- a slice of ints that lies apart grows -/
theorem keepZ (h : NetB w1 B R L H kr kl kh HL HH wb rv cv lv hv rl rh) (hr : RowZ lo wb v xs) (hlo : w1.heap.size ≤ lo) (hg : wb.grownBy w3 (rb v)) (f1 : ∀ b, rb v = some b → rv.ownBlock ≠ some b)
    (f2 : ∀ b, rb v = some b → ¬ rowBlks rl (L.take kl) b) (f3 : ∀ b, rb v = some b → ¬ rowBlks rh (H.take kh) b) : NetB w1 B R L H kr kl kh HL HH w3 rv cv lv hv rl rh := by
  have hlt := h.lt
  have hs := hg.size
  refine ⟨h.box.upd (Upd.of_grown hg) (fun e => by have := (hr.blk e).1; omega), h.rows.upd (Upd.of_grown hg) (fun b hb e => f1 b e hb), ⟨spineZ h.lo.own hr hg, fun k hk => (h.lo.row k hk).upd (Upd.of_grown hg) (fun hx e => f2 _ e ⟨k, hk, hx, rfl⟩), h.lo.diff⟩,
    ⟨spineZ h.hi.own hr hg, fun k hk => (h.hi.row k hk).upd (Upd.of_grown hg) (fun hx e => f3 _ e ⟨k, hk, hx, rfl⟩), h.hi.diff⟩, h.d1, h.d2, h.d3, h.upd.grown hg (fun k e hk => by have := (hr.blk e).1; omega), hlt, Nat.le_trans h.bl hs, Nat.le_trans h.bh hs⟩
end NetB

/-- three slices of ints that grow beside the network; c is its field of columns -/
structure Thr (w2 wr : World) (B : Nat) (rv lv hv a b c : Value) (xs ys zs : List Int) : Prop where
  ra : RowZ w2.heap.size wr a xs
  rb' : RowZ w2.heap.size wr b ys
  rc : RowZ w2.heap.size wr c zs
  dab : ∀ k, rb a = some k → rb b ≠ some k
  dac : ∀ k, rb a = some k → rb c ≠ some k
  dbc : ∀ k, rb b = some k → rb c ≠ some k
  upd : Upd (fun b => b = B) w2 wr
  lt : B < w2.heap.size
  box : Box wr B 30 #[rv, c, lv, hv]
namespace Thr
variable {w2 wr wb w3 : World} {B g n cap : Nat} {rv lv hv a b c : Value} {xs ys zs xs' : List Int}
theorem ext' (h : Thr w2 wr B rv lv hv a b c xs ys zs) (E : Ext wr wb) : Thr w2 wb B rv lv hv a b c xs ys zs :=
  ⟨h.ra.ext E, h.rb'.ext E, h.rc.ext E, h.dab, h.dac, h.dbc, h.upd.trans E.upd, h.lt, h.box.ext E⟩
theorem fresh {v v' : Value} {lo : Nat} {us : List Int} (hat : rb v = some g ∨ g = wb.heap.size) (hv : RowZ lo wb v' us) (hd : ∀ k, rb v = some k → rb v' ≠ some k) : ∀ k, rb (.slice (some ⟨g, 0, none⟩) n cap) = some k → rb v' ≠ some k := fun k e e2 => by
  have hk := rb_own e
  subst hk
  rcases hat with h | h
  · exact hd _ h e2
  · have := (hv.blk e2).2; omega
theorem addA (h : Thr w2 wb B rv lv hv a b c xs ys zs) (hg : wb.grownBy w3 (rb a)) (hat : rb a = some g ∨ g = wb.heap.size) (hr : IRow w2.heap.size w3 (.slice (some ⟨g, 0, none⟩) n cap) xs') :
    Thr w2 w3 B rv lv hv (.slice (some ⟨g, 0, none⟩) n cap) b c xs' ys zs := by
  have hlt := h.lt
  have hsz := Upd.size h.upd
  exact ⟨.inl hr, h.rb'.upd (Upd.of_grown hg) (fun k e e2 => h.dab k e2 e), h.rc.upd (Upd.of_grown hg) (fun k e e2 => h.dac k e2 e), fresh hat h.rb' h.dab, fresh hat h.rc h.dac, h.dbc,
    h.upd.grown hg (fun k e hk => by have := (h.ra.blk e).1; omega), hlt, h.box.upd (Upd.of_grown hg) (fun e => by have := (h.ra.blk e).1; omega)⟩
theorem addB (h : Thr w2 wb B rv lv hv a b c xs ys zs) (hg : wb.grownBy w3 (rb b)) (hat : rb b = some g ∨ g = wb.heap.size) (hr : IRow w2.heap.size w3 (.slice (some ⟨g, 0, none⟩) n cap) xs') :
    Thr w2 w3 B rv lv hv a (.slice (some ⟨g, 0, none⟩) n cap) c xs xs' zs := by
  have hlt := h.lt
  have hsz := Upd.size h.upd
  exact ⟨h.ra.upd (Upd.of_grown hg) (fun k e e2 => h.dab k e e2), .inl hr, h.rc.upd (Upd.of_grown hg) (fun k e e2 => h.dbc k e2 e), fun k e e2 => fresh hat h.ra (fun k e e2 => h.dab k e2 e) k e2 e, h.dac, fresh hat h.rc h.dbc,
    h.upd.grown hg (fun k e hk => by have := (h.rb'.blk e).1; omega), hlt, h.box.upd (Upd.of_grown hg) (fun e => by have := (h.rb'.blk e).1; omega)⟩
theorem addC (h : Thr w2 wb B rv lv hv a b c xs ys zs) (hg : wb.grownBy w3 (rb c)) (hat : rb c = some g ∨ g = wb.heap.size) (hr : IRow w2.heap.size w3 (.slice (some ⟨g, 0, none⟩) n cap) xs') :
    Thr w2 (w3.setCell ⟨B, 1, none⟩ (.slice (some ⟨g, 0, none⟩) n cap)) B rv lv hv a b (.slice (some ⟨g, 0, none⟩) n cap) xs ys xs' := by
  have hlt := h.lt
  have hsz := Upd.size h.upd
  have hb3 := h.box.upd (Upd.of_grown hg) (fun e => by have := (h.rc.blk e).1; omega)
  exact ⟨(h.ra.upd (Upd.of_grown hg) (fun k e e2 => h.dac k e e2)).put hlt _, (h.rb'.upd (Upd.of_grown hg) (fun k e e2 => h.dbc k e e2)).put hlt _, .inl (hr.put hlt _), h.dab,
    fun k e e2 => fresh hat h.ra (fun k e e2 => h.dac k e2 e) k e2 e, fun k e e2 => fresh hat h.rb' (fun k e e2 => h.dbc k e2 e) k e2 e,
    (h.upd.grown hg (fun k e hk => by have := (h.rc.blk e).1; omega)).setCell _ (fun _ => rfl), hlt, hb3.set 1 _⟩
end Thr

/-- a slice of ints that lies apart from the network's rows -/
structure Fre (lo : Nat) (wr : World) (rv : Value) (rl rh : List Value) (Lk Hk : List (List Int)) (v : Value) (xs : List Int) : Prop where
  row : RowZ lo wr v xs
  f1 : ∀ k, rb v = some k → rv.ownBlock ≠ some k
  f2 : ∀ k, rb v = some k → ¬ rowBlks rl Lk k
  f3 : ∀ k, rb v = some k → ¬ rowBlks rh Hk k
section
variable {w1 w2 wb wi w3 w4 w6 : World} {B kr kl kh HL HH g cp g6 cp6 lo n : Nat} {R xs xs' ys zs : List Int} {L H : List (List Int)} {rv cv c0 lv hv v a b c : Value} {rl rh : List Value}
/-- the last row of lo is complete and appended -/
theorem stage29 (hA : NetB w1 B R L H kr kl kh HL HH w2 rv c0 lv hv rl rh) (hT : Thr w2 w3 B rv lv hv a b c (rowAt L kl) ys zs) (ha : rowAt L kl ≠ []) (hk : kl < L.length) (hB : w1.heap.size ≤ HL) (E : Ext w3 w4)
    (hg : w4.grownBy w6 lv.ownBlock) (hat : lv.ownBlock = some g6 ∨ g6 = w4.heap.size) (hown : w6.ownsRow w1.heap.size 22 1 (.slice (some ⟨g6, 0, none⟩) (kl + 1) cp6) (kl + 1) (rl ++ [a])) :
    NetB w1 B R L H kr (kl + 1) kh w6.heap.size HH (w6.setCell ⟨B, 2, none⟩ (.slice (some ⟨g6, 0, none⟩) (kl + 1) cp6)) rv c (.slice (some ⟨g6, 0, none⟩) (kl + 1) cp6) hv (rl ++ [a]) rh ∧
    Fre w2.heap.size (w6.setCell ⟨B, 2, none⟩ (.slice (some ⟨g6, 0, none⟩) (kl + 1) cp6)) rv (rl ++ [a]) rh (L.take (kl + 1)) (H.take kh) b ys ∧
    Fre w2.heap.size (w6.setCell ⟨B, 2, none⟩ (.slice (some ⟨g6, 0, none⟩) (kl + 1) cp6)) rv (rl ++ [a]) rh (L.take (kl + 1)) (H.take kh) c zs ∧
    Own w2.heap.size w4.heap.size w4 a (rowAt L kl) := by
  have hT4 := hT.ext' E
  have A4 := hA.cols hT4.upd hT4.box
  have hra := hT4.ra.row ha
  have ho : Own w2.heap.size w4.heap.size w4 a (rowAt L kl) := hra.own (Nat.le_refl _)
  have A6 := A4.addLo hk ho hA.bl (fun b e => (hA.rows.blk e).2) hB hg hat hown
  have hlt := hT.lt
  have rba : rb a = some (blk a) := by
    rcases hT4.ra.split with ⟨h1, h2⟩ | ⟨h1, _⟩
    · obtain ⟨g, cp, cu, e, _⟩ := h1.2.resolve_left (fun hn => ha (List.eq_nil_of_length_eq_zero hn.2))
      rw [h2, e]; rfl
    · exact absurd h1 ha
  have fr : ∀ {v : Value} {us : List Int}, RowZ w2.heap.size w4 v us → (∀ k, rb a = some k → rb v ≠ some k) →
      Fre w2.heap.size (w6.setCell ⟨B, 2, none⟩ (.slice (some ⟨g6, 0, none⟩) (kl + 1) cp6)) rv (rl ++ [a]) rh (L.take (kl + 1)) (H.take kh) v us := fun {v us} hv hd => by
    refine ⟨(hv.upd (Upd.of_grown hg) (fun k e e2 => ?_)).put hlt _, fun k e e2 => ?_, fun k e e2 => ?_, fun k e e2 => ?_⟩
    · rcases hv.split with ⟨h1, h2⟩ | ⟨_, h2, _⟩
      · exact ints_ne_spine h1 A4.lo.own (h2 ▸ e) e2
      · rw [h2] at e; cases e
    · have := (hA.rows.blk e2).2; have := (hv.blk e).1; omega
    · rw [take_succ_row hk] at e2
      rcases rowBlks_snoc (by rw [hA.lo.len]) e2 with e3 | ⟨_, e3⟩
      · have := (hA.lo.rows e3).2.2; have := (hv.blk e).1; omega
      · subst e3; exact hd _ rba e
    · have := (hA.hi.rows e2).2.2; have := (hv.blk e).1; omega
  exact ⟨A6, fr hT4.rb' hT4.dab, fr hT4.rc hT4.dac, ho⟩
/-- the last row of hi is complete and appended -/
theorem stage30 (hA : NetB w1 B R L H kr kl kh HL HH w3 rv c lv hv rl rh) (hb : IRow lo w3 b (rowAt H kh)) (hc : Fre lo w3 rv rl rh (L.take kl) (H.take kh) c zs) (hd : ∀ k, rb b = some k → rb c ≠ some k) (hk : kh < H.length) (hB : w1.heap.size ≤ HH) (hM : HH ≤ lo)
    (hrv : ∀ b, rv.ownBlock = some b → b < lo) (hlo : w1.heap.size ≤ lo) (E : Ext w3 w4)
    (hg : w4.grownBy w6 hv.ownBlock) (hat : hv.ownBlock = some g6 ∨ g6 = w4.heap.size) (hown : w6.ownsRow w1.heap.size 22 1 (.slice (some ⟨g6, 0, none⟩) (kh + 1) cp6) (kh + 1) (rh ++ [b])) (hcap : rb b = some (blk b)) :
    NetB w1 B R L H kr kl (kh + 1) HL w6.heap.size (w6.setCell ⟨B, 3, none⟩ (.slice (some ⟨g6, 0, none⟩) (kh + 1) cp6)) rv c lv (.slice (some ⟨g6, 0, none⟩) (kh + 1) cp6) rl (rh ++ [b]) ∧
    Fre lo (w6.setCell ⟨B, 3, none⟩ (.slice (some ⟨g6, 0, none⟩) (kh + 1) cp6)) rv rl (rh ++ [b]) (L.take kl) (H.take (kh + 1)) c zs := by
  have A4 := hA.ext' E
  have ho : Own lo w4.heap.size w4 b (rowAt H kh) := (hb.ext E).own (Nat.le_refl _)
  have A6 := A4.addHi hk ho hM hrv hB hg hat hown
  have hlt := hA.lt
  have hv := hc.row.ext E
  refine ⟨A6, (hv.upd (Upd.of_grown hg) (fun k e e2 => ?_)).put (by simp only; omega) _, hc.f1, hc.f2, fun k e e2 => ?_⟩
  · rcases hv.split with ⟨h1, h2⟩ | ⟨_, h2, _⟩
    · exact ints_ne_spine h1 A4.hi.own (h2 ▸ e) e2
    · rw [h2] at e; cases e
  · rw [take_succ_row hk] at e2
    rcases rowBlks_snoc (by rw [hA.hi.len]) e2 with e3 | ⟨_, e3⟩
    · exact hc.f3 k e e3
    · subst e3; exact hd _ hcap e
/-- the last sum of a row is appended -/
theorem stage31 (hA : NetB w1 B R L H kr kl kh HL HH wb rv c lv hv rl rh) (hc : Fre lo wb rv rl rh (L.take kl) (H.take kh) c zs) (hk : kr < R.length) (hlo : w1.heap.size ≤ lo) (hg : wb.grownBy w3 rv.ownBlock) (hat : rv.ownBlock = some g ∨ g = wb.heap.size)
    (hown : w3.ownsRow w1.heap.size 3 1 (.slice (some ⟨g, 0, none⟩) (kr + 1) cp) (kr + 1) ((R.take kr).map (Value.int .i64) ++ [.int .i64 (ix R kr)])) :
    NetB w1 B R L H (kr + 1) kl kh HL HH (w3.setCell ⟨B, 0, none⟩ (.slice (some ⟨g, 0, none⟩) (kr + 1) cp)) (.slice (some ⟨g, 0, none⟩) (kr + 1) cp) c lv hv rl rh ∧
    Fre lo (w3.setCell ⟨B, 0, none⟩ (.slice (some ⟨g, 0, none⟩) (kr + 1) cp)) (.slice (some ⟨g, 0, none⟩) (kr + 1) cp) rl rh (L.take kl) (H.take kh) c zs := by
  have hlt := hA.lt
  refine ⟨hA.addRow hk hg hat hown, (hc.row.upd (Upd.of_grown hg) (fun k e e2 => hc.f1 k e e2)).put (by simp only; omega) _, fun k e e2 => ?_, hc.f2, hc.f3⟩
  simp only [Value.ownBlock, Option.some.injEq] at e2
  subst e2
  rcases hat with h | h
  · exact hc.f1 _ e h
  · have := (hc.row.blk e).2; omega
end
end Go.Proofs.Ytjpomfdmgaambaa
