/- A network that is built by append, its last stage: three slices of ints that grow beside it. No walk here. -/
import Derived.Test.YtjpomfdmgaambaaNetB
import Derived.Test.YtjpomfdmgaambaaRowZ
namespace Go.Proofs.Ytjpomfdmgaambaa
open Go.RowKit

/-- a slice of slices is not touched where a slice of ints grows -/
theorem spineZ {lo lo' n : Nat} {w w' : World} {v v' : Value} {xs : List Int} {ys : List Value} (h : w.ownsRow lo' 22 1 v' n ys) (hr : RowZ lo w v xs) (hg : w.grownBy w' (rb v)) : w'.ownsRow lo' 22 1 v' n ys :=
  ownsRow_upd h (Upd.of_grown hg) (fun b hb e => by
    rcases hr.split with ⟨h1, h2⟩ | ⟨_, h2, _⟩
    · exact ints_ne_spine h1 h (h2 ▸ e) hb
    · rw [h2] at e; cases e)
namespace NetB
variable {w1 wo wb w3 : World} {B kr kl kh HL HH g cp lo : Nat} {R xs : List Int} {L H : List (List Int)} {rv cv lv hv v : Value} {rl rh : List Value}
theorem cols {c0 : Value} (h : NetB w1 B R L H kr kl kh HL HH wo rv c0 lv hv rl rh) (u : Upd (fun b => b = B) wo wb) (hb : Box wb B 30 #[rv, cv, lv, hv]) : NetB w1 B R L H kr kl kh HL HH wb rv cv lv hv rl rh := by
  have hlt := h.lt
  exact ⟨hb, h.rows.upd u (fun b hb e => by have := (h.rows.blk hb).1; omega), h.lo.upd u (fun b hb e => by have := (h.lo.blk hb).1; omega) (fun b hb e => by have := (h.lo.rows hb).1; omega),
    h.hi.upd u (fun b hb e => by have := (h.hi.blk hb).1; omega) (fun b hb e => by have := (h.hi.rows hb).1; omega), h.d1, h.d2, h.d3, h.upd.trans u, hlt, Nat.le_trans h.bl u.size, Nat.le_trans h.bh u.size⟩
/-- a slice of ints that lies apart grows -/
theorem keepZ (h : NetB w1 B R L H kr kl kh HL HH wb rv cv lv hv rl rh) (hr : RowZ lo wb v xs) (hlo : w1.heap.size ≤ lo) (hg : wb.grownBy w3 (rb v)) (f1 : ∀ b, rb v = some b → rv.ownBlock ≠ some b)
    (f2 : ∀ b, rb v = some b → ¬ rowBlks rl (L.take kl) b) (f3 : ∀ b, rb v = some b → ¬ rowBlks rh (H.take kh) b) : NetB w1 B R L H kr kl kh HL HH w3 rv cv lv hv rl rh := by
  have hlt := h.lt
  have hs := hg.size
  refine ⟨h.box.upd (Upd.of_grown hg) (fun e => by have := (hr.blk e).1; omega), h.rows.upd (Upd.of_grown hg) (fun b hb e => f1 b e hb), ⟨spineZ h.lo.own hr hg, fun k hk => (h.lo.row k hk).upd (Upd.of_grown hg) (fun hx e => f2 _ e ⟨k, hk, hx, rfl⟩), h.lo.diff⟩,
    ⟨spineZ h.hi.own hr hg, fun k hk => (h.hi.row k hk).upd (Upd.of_grown hg) (fun hx e => f3 _ e ⟨k, hk, hx, rfl⟩), h.hi.diff⟩, h.d1, h.d2, h.d3, h.upd.grown hg (fun k e hk => by have := (hr.blk e).1; omega), hlt, Nat.le_trans h.bl hs, Nat.le_trans h.bh hs⟩
end NetB

/-- three slices of ints that grow beside the network; c is its field of columns -/
structure Thr (w2 wr : World) (B : Nat) (rv lv hv a b c : Value) (xs ys zs : List Int) : Prop where
  ra : RowZ w2.heap.size wr a xs
  rb' : RowZ w2.heap.size wr b ys
  rc : RowZ w2.heap.size wr c zs
  dab : ∀ k, rb a = some k → rb b ≠ some k
  dac : ∀ k, rb a = some k → rb c ≠ some k
  dbc : ∀ k, rb b = some k → rb c ≠ some k
  upd : Upd (fun b => b = B) w2 wr
  lt : B < w2.heap.size
  box : Box wr B 30 #[rv, c, lv, hv]
namespace Thr
variable {w2 wr wb w3 : World} {B g n cap : Nat} {rv lv hv a b c : Value} {xs ys zs xs' : List Int}
theorem ext' (h : Thr w2 wr B rv lv hv a b c xs ys zs) (E : Ext wr wb) : Thr w2 wb B rv lv hv a b c xs ys zs :=
  ⟨h.ra.ext E, h.rb'.ext E, h.rc.ext E, h.dab, h.dac, h.dbc, h.upd.trans E.upd, h.lt, h.box.ext E⟩
theorem fresh {v v' : Value} {lo : Nat} {us : List Int} (hat : rb v = some g ∨ g = wb.heap.size) (hv : RowZ lo wb v' us) (hd : ∀ k, rb v = some k → rb v' ≠ some k) : ∀ k, rb (.slice (some ⟨g, 0, none⟩) n cap) = some k → rb v' ≠ some k := fun k e e2 => by
  have hk := rb_own e
  subst hk
  rcases hat with h | h
  · exact hd _ h e2
  · have := (hv.blk e2).2; omega
theorem addA (h : Thr w2 wb B rv lv hv a b c xs ys zs) (hg : wb.grownBy w3 (rb a)) (hat : rb a = some g ∨ g = wb.heap.size) (hr : IRow w2.heap.size w3 (.slice (some ⟨g, 0, none⟩) n cap) xs') :
    Thr w2 w3 B rv lv hv (.slice (some ⟨g, 0, none⟩) n cap) b c xs' ys zs := by
  have hlt := h.lt
  have hsz := Upd.size h.upd
  exact ⟨.inl hr, h.rb'.upd (Upd.of_grown hg) (fun k e e2 => h.dab k e2 e), h.rc.upd (Upd.of_grown hg) (fun k e e2 => h.dac k e2 e), fresh hat h.rb' h.dab, fresh hat h.rc h.dac, h.dbc,
    h.upd.grown hg (fun k e hk => by have := (h.ra.blk e).1; omega), hlt, h.box.upd (Upd.of_grown hg) (fun e => by have := (h.ra.blk e).1; omega)⟩
theorem addB (h : Thr w2 wb B rv lv hv a b c xs ys zs) (hg : wb.grownBy w3 (rb b)) (hat : rb b = some g ∨ g = wb.heap.size) (hr : IRow w2.heap.size w3 (.slice (some ⟨g, 0, none⟩) n cap) xs') :
    Thr w2 w3 B rv lv hv a (.slice (some ⟨g, 0, none⟩) n cap) c xs xs' zs := by
  have hlt := h.lt
  have hsz := Upd.size h.upd
  exact ⟨h.ra.upd (Upd.of_grown hg) (fun k e e2 => h.dab k e e2), .inl hr, h.rc.upd (Upd.of_grown hg) (fun k e e2 => h.dbc k e2 e), fun k e e2 => fresh hat h.ra (fun k e e2 => h.dab k e2 e) k e2 e, h.dac, fresh hat h.rc h.dbc,
    h.upd.grown hg (fun k e hk => by have := (h.rb'.blk e).1; omega), hlt, h.box.upd (Upd.of_grown hg) (fun e => by have := (h.rb'.blk e).1; omega)⟩
theorem addC (h : Thr w2 wb B rv lv hv a b c xs ys zs) (hg : wb.grownBy w3 (rb c)) (hat : rb c = some g ∨ g = wb.heap.size) (hr : IRow w2.heap.size w3 (.slice (some ⟨g, 0, none⟩) n cap) xs') :
    Thr w2 (w3.setCell ⟨B, 1, none⟩ (.slice (some ⟨g, 0, none⟩) n cap)) B rv lv hv a b (.slice (some ⟨g, 0, none⟩) n cap) xs ys xs' := by
  have hlt := h.lt
  have hsz := Upd.size h.upd
  have hb3 := h.box.upd (Upd.of_grown hg) (fun e => by have := (h.rc.blk e).1; omega)
  exact ⟨(h.ra.upd (Upd.of_grown hg) (fun k e e2 => h.dac k e e2)).put hlt _, (h.rb'.upd (Upd.of_grown hg) (fun k e e2 => h.dbc k e e2)).put hlt _, .inl (hr.put hlt _), h.dab,
    fun k e e2 => fresh hat h.ra (fun k e e2 => h.dac k e2 e) k e2 e, fun k e e2 => fresh hat h.rb' (fun k e e2 => h.dbc k e2 e) k e2 e,
    (h.upd.grown hg (fun k e hk => by have := (h.rc.blk e).1; omega)).setCell _ (fun _ => rfl), hlt, hb3.set 1 _⟩
end Thr

/-- a slice of ints that lies apart from the network's rows -/
structure Fre (lo : Nat) (wr : World) (rv : Value) (rl rh : List Value) (Lk Hk : List (List Int)) (v : Value) (xs : List Int) : Prop where
  row : RowZ lo wr v xs
  f1 : ∀ k, rb v = some k → rv.ownBlock ≠ some k
  f2 : ∀ k, rb v = some k → ¬ rowBlks rl Lk k
  f3 : ∀ k, rb v = some k → ¬ rowBlks rh Hk k
section
variable {w1 w2 wb wi w3 w4 w6 : World} {B kr kl kh HL HH g cp g6 cp6 lo n : Nat} {R xs xs' ys zs : List Int} {L H : List (List Int)} {rv cv c0 lv hv v a b c : Value} {rl rh : List Value}
/-- the last row of lo is complete and appended -/
theorem stage29 (hA : NetB w1 B R L H kr kl kh HL HH w2 rv c0 lv hv rl rh) (hT : Thr w2 w3 B rv lv hv a b c (rowAt L kl) ys zs) (ha : rowAt L kl ≠ []) (hk : kl < L.length) (hB : w1.heap.size ≤ HL) (E : Ext w3 w4)
    (hg : w4.grownBy w6 lv.ownBlock) (hat : lv.ownBlock = some g6 ∨ g6 = w4.heap.size) (hown : w6.ownsRow w1.heap.size 22 1 (.slice (some ⟨g6, 0, none⟩) (kl + 1) cp6) (kl + 1) (rl ++ [a])) :
    NetB w1 B R L H kr (kl + 1) kh w6.heap.size HH (w6.setCell ⟨B, 2, none⟩ (.slice (some ⟨g6, 0, none⟩) (kl + 1) cp6)) rv c (.slice (some ⟨g6, 0, none⟩) (kl + 1) cp6) hv (rl ++ [a]) rh ∧
    Fre w2.heap.size (w6.setCell ⟨B, 2, none⟩ (.slice (some ⟨g6, 0, none⟩) (kl + 1) cp6)) rv (rl ++ [a]) rh (L.take (kl + 1)) (H.take kh) b ys ∧
    Fre w2.heap.size (w6.setCell ⟨B, 2, none⟩ (.slice (some ⟨g6, 0, none⟩) (kl + 1) cp6)) rv (rl ++ [a]) rh (L.take (kl + 1)) (H.take kh) c zs ∧
    Own w2.heap.size w4.heap.size w4 a (rowAt L kl) := by
  have hT4 := hT.ext' E
  have A4 := hA.cols hT4.upd hT4.box
  have hra := hT4.ra.row ha
  have ho : Own w2.heap.size w4.heap.size w4 a (rowAt L kl) := hra.own (Nat.le_refl _)
  have A6 := A4.addLo hk ho hA.bl (fun b e => (hA.rows.blk e).2) hB hg hat hown
  have hlt := hT.lt
  have rba : rb a = some (blk a) := by
    rcases hT4.ra.split with ⟨h1, h2⟩ | ⟨h1, _⟩
    · obtain ⟨g, cp, cu, e, _⟩ := h1.2.resolve_left (fun hn => ha (List.eq_nil_of_length_eq_zero hn.2))
      rw [h2, e]; rfl
    · exact absurd h1 ha
  have fr : ∀ {v : Value} {us : List Int}, RowZ w2.heap.size w4 v us → (∀ k, rb a = some k → rb v ≠ some k) →
      Fre w2.heap.size (w6.setCell ⟨B, 2, none⟩ (.slice (some ⟨g6, 0, none⟩) (kl + 1) cp6)) rv (rl ++ [a]) rh (L.take (kl + 1)) (H.take kh) v us := fun {v us} hv hd => by
    refine ⟨(hv.upd (Upd.of_grown hg) (fun k e e2 => ?_)).put hlt _, fun k e e2 => ?_, fun k e e2 => ?_, fun k e e2 => ?_⟩
    · rcases hv.split with ⟨h1, h2⟩ | ⟨_, h2, _⟩
      · exact ints_ne_spine h1 A4.lo.own (h2 ▸ e) e2
      · rw [h2] at e; cases e
    · have := (hA.rows.blk e2).2; have := (hv.blk e).1; omega
    · rw [take_succ_row hk] at e2
      rcases rowBlks_snoc (by rw [hA.lo.len]) e2 with e3 | ⟨_, e3⟩
      · have := (hA.lo.rows e3).2.2; have := (hv.blk e).1; omega
      · subst e3; exact hd _ rba e
    · have := (hA.hi.rows e2).2.2; have := (hv.blk e).1; omega
  exact ⟨A6, fr hT4.rb' hT4.dab, fr hT4.rc hT4.dac, ho⟩
/-- the last row of hi is complete and appended -/
theorem stage30 (hA : NetB w1 B R L H kr kl kh HL HH w3 rv c lv hv rl rh) (hb : IRow lo w3 b (rowAt H kh)) (hc : Fre lo w3 rv rl rh (L.take kl) (H.take kh) c zs) (hd : ∀ k, rb b = some k → rb c ≠ some k) (hk : kh < H.length) (hB : w1.heap.size ≤ HH) (hM : HH ≤ lo)
    (hrv : ∀ b, rv.ownBlock = some b → b < lo) (hlo : w1.heap.size ≤ lo) (E : Ext w3 w4)
    (hg : w4.grownBy w6 hv.ownBlock) (hat : hv.ownBlock = some g6 ∨ g6 = w4.heap.size) (hown : w6.ownsRow w1.heap.size 22 1 (.slice (some ⟨g6, 0, none⟩) (kh + 1) cp6) (kh + 1) (rh ++ [b])) (hcap : rb b = some (blk b)) :
    NetB w1 B R L H kr kl (kh + 1) HL w6.heap.size (w6.setCell ⟨B, 3, none⟩ (.slice (some ⟨g6, 0, none⟩) (kh + 1) cp6)) rv c lv (.slice (some ⟨g6, 0, none⟩) (kh + 1) cp6) rl (rh ++ [b]) ∧
    Fre lo (w6.setCell ⟨B, 3, none⟩ (.slice (some ⟨g6, 0, none⟩) (kh + 1) cp6)) rv rl (rh ++ [b]) (L.take kl) (H.take (kh + 1)) c zs := by
  have A4 := hA.ext' E
  have ho : Own lo w4.heap.size w4 b (rowAt H kh) := (hb.ext E).own (Nat.le_refl _)
  have A6 := A4.addHi hk ho hM hrv hB hg hat hown
  have hlt := hA.lt
  have hv := hc.row.ext E
  refine ⟨A6, (hv.upd (Upd.of_grown hg) (fun k e e2 => ?_)).put (by simp only; omega) _, hc.f1, hc.f2, fun k e e2 => ?_⟩
  · rcases hv.split with ⟨h1, h2⟩ | ⟨_, h2, _⟩
    · exact ints_ne_spine h1 A4.hi.own (h2 ▸ e) e2
    · rw [h2] at e; cases e
  · rw [take_succ_row hk] at e2
    rcases rowBlks_snoc (by rw [hA.hi.len]) e2 with e3 | ⟨_, e3⟩
    · exact hc.f3 k e e3
    · subst e3; exact hd _ hcap e
/-- the last sum of a row is appended -/
theorem stage31 (hA : NetB w1 B R L H kr kl kh HL HH wb rv c lv hv rl rh) (hc : Fre lo wb rv rl rh (L.take kl) (H.take kh) c zs) (hk : kr < R.length) (hlo : w1.heap.size ≤ lo) (hg : wb.grownBy w3 rv.ownBlock) (hat : rv.ownBlock = some g ∨ g = wb.heap.size)
    (hown : w3.ownsRow w1.heap.size 3 1 (.slice (some ⟨g, 0, none⟩) (kr + 1) cp) (kr + 1) ((R.take kr).map (Value.int .i64) ++ [.int .i64 (ix R kr)])) :
    NetB w1 B R L H (kr + 1) kl kh HL HH (w3.setCell ⟨B, 0, none⟩ (.slice (some ⟨g, 0, none⟩) (kr + 1) cp)) (.slice (some ⟨g, 0, none⟩) (kr + 1) cp) c lv hv rl rh ∧
    Fre lo (w3.setCell ⟨B, 0, none⟩ (.slice (some ⟨g, 0, none⟩) (kr + 1) cp)) (.slice (some ⟨g, 0, none⟩) (kr + 1) cp) rl rh (L.take kl) (H.take kh) c zs := by
  have hlt := hA.lt
  refine ⟨hA.addRow hk hg hat hown, (hc.row.upd (Upd.of_grown hg) (fun k e e2 => hc.f1 k e e2)).put (by simp only; omega) _, fun k e e2 => ?_, hc.f2, hc.f3⟩
  simp only [Value.ownBlock, Option.some.injEq] at e2
  subst e2
  rcases hat with h | h
  · exact hc.f1 _ e h
  · have := (hc.row.blk e).2; omega
end
end Go.Proofs.Ytjpomfdmgaambaa
