/- A network with other bounds of an element, the spec's: tWith. -/
import Derived.Test.YtodnkahnbidgaaaSfeas
import Derived.Deep.RegionHeld3
namespace Go.Proofs.Ytodnkahnbidgaaa
open Go.RowKit
open Fm

def setEl (X : List (List Int)) (i j : Nat) (v : Int) : List (List Int) := X.set i ((rowAt X i).set j v)
def withT (T : Tr) (i j : Nat) (lo hi : Int) : Tr := ⟨T.rows, T.cols, setEl T.lo i j lo, setEl T.hi i j hi⟩

theorem OwnGA.put4 {lo hi B : Nat} {w : World} {ao : Option Addr} {rvs : List Value} {xss : List (List Int)} (h : OwnGA lo hi w ao rvs xss) (hB : B < lo ∨ hi ≤ B) (x0 x1 x2 x3 : Value) : OwnGA lo hi (put4 w B x0 x1 x2 x3) ao rvs xss :=
  (((h.put_away ⟨B, 0, none⟩ x0 hB).put_away ⟨B, 1, none⟩ x1 hB).put_away ⟨B, 2, none⟩ x2 hB).put_away ⟨B, 3, none⟩ x3 hB
theorem setEl_len (X : List (List Int)) (i j : Nat) (v : Int) : (setEl X i j v).length = X.length := by simp [setEl]
set_option maxRecDepth 100000 in
set_option maxHeartbeats 6400000 in
theorem tWith_c (T : Tr) (a0 a1 a2 a3 : Option Addr) (c0 c1 c2 c3 n m i j : Nat) (lo hi : Int) (w : World) (hn : T.rows.length = n) (hm : T.cols.length = m) (h : TrR w (.agg #[.slice a0 n c0, .slice a1 m c1, .slice a2 n c2, .slice a3 n c3]) T) (ho : TrOk T) (hi' : i < n) (hj' : j < m) :
    Calls Try.prog 25 #[.agg #[.slice a0 n c0, .slice a1 m c1, .slice a2 n c2, .slice a3 n c3], .int .i64 i, .int .i64 j, .int .i64 lo, .int .i64 hi] w fun e w' => ∃ (a4 a5 : Option Addr) (c4 c5 mid : Nat) (r4 r5 : List Value), e = .returned (.agg #[.slice a0 n c0, .slice a1 m c1, .slice a4 n c4, .slice a5 n c5]) ∧
      OwnGA w.heap.size mid w' a4 r4 (setEl T.lo i j lo) ∧ OwnGA mid w'.heap.size w' a5 r5 (setEl T.hi i j hi) ∧ n ≤ c4 ∧ c4 ≤ 9223372036854775807 ∧ n ≤ c5 ∧ c5 ≤ 9223372036854775807 ∧ Ext w w' := by
  have H := Lib.hid h; clear h
  have HO := Lib.hid ho; clear ho
  have hd := HO.out.dims
  have d2 : n ≤ 8 := by rw [← hn]; exact hd.2.1
  have d4 : m ≤ 8 := by rw [← hm]; exact hd.2.2.2.1
  have hll : T.lo.length = n := by rw [← hn]; exact HO.out.rcLo.len
  have hlh : T.hi.length = n := by rw [← hn]; exact HO.out.rcHi.len
  have hrl : ∀ k, k < n → (rowAt T.lo k).length = m := fun k hk => by rw [← hm]; exact HO.out.rcLo.row k (by rw [hn]; exact hk)
  have hrh : ∀ k, k < n → (rowAt T.hi k).length = m := fun k hk => by rw [← hm]; exact HO.out.rcHi.row k (by rw [hn]; exact hk)
  clear hd
  have HLL := Lib.hid hll; clear hll
  have HLH := Lib.hid hlh; clear hlh
  have HRL := Lib.hid hrl; clear hrl
  have HRH := Lib.hid hrh; clear hrh
  have HN := Lib.hid hn; clear hn
  have HM := Lib.hid hm; clear hm
  have u0 := ((Ext.refl w).alloc (.cells #[.slice a0 n c0, .slice a1 m c1, .slice a2 n c2, .slice a3 n c3] 38)).alloc (.cells #[.slice none 0 0, .slice none 0 0, .slice none 0 0, .slice none 0 0] 38)
  have b0 := (Box.new w 38 #[.slice a0 n c0, .slice a1 m c1, .slice a2 n c2, .slice a3 n c3] rfl).alloc (.cells #[.slice none 0 0, .slice none 0 0, .slice none 0 0, .slice none 0 0] 38)
  have br := Box.new (w.alloc (.cells #[.slice a0 n c0, .slice a1 m c1, .slice a2 n c2, .slice a3 n c3] 38)) 38 #[.slice none 0 0, .slice none 0 0, .slice none 0 0, .slice none 0 0] (b := w.heap.size + 1) (by simp)
  have k0 := b0.cell 0 (by simp)
  have k1 := b0.cell 1 (by simp)
  have k2 := b0.cell 2 (by simp)
  have k3 := b0.cell 3 (by simp)
  obtain ⟨ws, hws⟩ : ∃ ws, (w.alloc (.cells #[.slice a0 n c0, .slice a1 m c1, .slice a2 n c2, .slice a3 n c3] 38)).alloc (.cells #[.slice none 0 0, .slice none 0 0, .slice none 0 0, .slice none 0 0] 38) = ws := ⟨_, rfl⟩
  have HSZ : Hid (ws.heap.size = w.heap.size + 2) := Lib.hid (by rw [← hws]; simp)
  rw [hws] at u0 b0 br k0 k1 k2 k3
  have HWS := Lib.hid hws; clear hws
  have hlo2 : ∀ k, k < T.lo.length → (rowAt T.lo k).length ≤ 1048576 := fun k hk => by rw [HRL.out k (by rw [← HLL.out]; exact hk)]; omega
  have hlo3 : ∀ k, k < T.lo.length → rowAt T.lo k ≠ [] := fun k hk e => by
    have := HRL.out k (by rw [← HLL.out]; exact hk)
    rw [e] at this; simp at this; omega
  have hhi2 : ∀ k, k < T.hi.length → (rowAt T.hi k).length ≤ 1048576 := fun k hk => by rw [HRH.out k (by rw [← HLH.out]; exact hk)]; omega
  have hhi3 : ∀ k, k < T.hi.length → rowAt T.hi k ≠ [] := fun k hk e => by
    have := HRH.out k (by rw [← HLH.out]; exact hk)
    rw [e] at this; simp at this; omega
  have HL := Lib.hid (And.intro (show T.lo.length ≤ 1048576 by rw [HLL.out]; omega) (And.intro hlo2 hlo3)); clear hlo2 hlo3
  have HH := Lib.hid (And.intro (show T.hi.length ≤ 1048576 by rw [HLH.out]; omega) (And.intro hhi2 hhi3)); clear hhi2 hhi3
  have keepS : ∀ (x y : World), (Ext ws x ∧ x.cell? ⟨w.heap.size, 0, none⟩ = some (.slice a0 n c0) ∧ x.cell? ⟨w.heap.size, 1, none⟩ = some (.slice a1 m c1) ∧ x.cell? ⟨w.heap.size, 2, none⟩ = some (.slice a2 n c2) ∧ x.cell? ⟨w.heap.size, 3, none⟩ = some (.slice a3 n c3)) → Ext x y →
      (Ext ws y ∧ y.cell? ⟨w.heap.size, 0, none⟩ = some (.slice a0 n c0) ∧ y.cell? ⟨w.heap.size, 1, none⟩ = some (.slice a1 m c1) ∧ y.cell? ⟨w.heap.size, 2, none⟩ = some (.slice a2 n c2) ∧ y.cell? ⟨w.heap.size, 3, none⟩ = some (.slice a3 n c3)) :=
    fun _ _ h e => ⟨h.1.trans e, e.cell h.2.1, e.cell h.2.2.1, e.cell h.2.2.2.1, e.cell h.2.2.2.2⟩
  have keepSt : ∀ (x : World) (B : Nat) (v0 v1 v2 v3 : Value), (Ext ws x ∧ x.cell? ⟨w.heap.size, 0, none⟩ = some (.slice a0 n c0) ∧ x.cell? ⟨w.heap.size, 1, none⟩ = some (.slice a1 m c1) ∧ x.cell? ⟨w.heap.size, 2, none⟩ = some (.slice a2 n c2) ∧ x.cell? ⟨w.heap.size, 3, none⟩ = some (.slice a3 n c3)) → ws.heap.size ≤ B →
      (Ext ws (put4 x B v0 v1 v2 v3) ∧ (put4 x B v0 v1 v2 v3).cell? ⟨w.heap.size, 0, none⟩ = some (.slice a0 n c0) ∧ (put4 x B v0 v1 v2 v3).cell? ⟨w.heap.size, 1, none⟩ = some (.slice a1 m c1) ∧ (put4 x B v0 v1 v2 v3).cell? ⟨w.heap.size, 2, none⟩ = some (.slice a2 n c2) ∧ (put4 x B v0 v1 v2 v3).cell? ⟨w.heap.size, 3, none⟩ = some (.slice a3 n c3)) := fun x B v0 v1 v2 v3 h hB => by
    have e := h.1.put4 hB v0 v1 v2 v3
    exact ⟨e, e.cell k0, e.cell k1, e.cell k2, e.cell k3⟩
  have keepAl : ∀ (x : World) (o o' : Obj), (Ext ws (x.alloc o) ∧ (x.alloc o).cell? ⟨w.heap.size, 0, none⟩ = some (.slice a0 n c0) ∧ (x.alloc o).cell? ⟨w.heap.size, 1, none⟩ = some (.slice a1 m c1) ∧ (x.alloc o).cell? ⟨w.heap.size, 2, none⟩ = some (.slice a2 n c2) ∧ (x.alloc o).cell? ⟨w.heap.size, 3, none⟩ = some (.slice a3 n c3)) → ws.heap.size ≤ x.heap.size →
      (Ext ws (x.alloc o') ∧ (x.alloc o').cell? ⟨w.heap.size, 0, none⟩ = some (.slice a0 n c0) ∧ (x.alloc o').cell? ⟨w.heap.size, 1, none⟩ = some (.slice a1 m c1) ∧ (x.alloc o').cell? ⟨w.heap.size, 2, none⟩ = some (.slice a2 n c2) ∧ (x.alloc o').cell? ⟨w.heap.size, 3, none⟩ = some (.slice a3 n c3)) := fun x o o' h hB => by
    have e : Ext ws x := ⟨h.1.os, h.1.tape, h.1.output, hB, fun k hk hs => by rw [← h.1.block hk, Below.heap_alloc _ _ _ (by omega)]⟩
    have e' := e.alloc o'
    exact ⟨e', e'.cell k0, e'.cell k1, e'.cell k2, e'.cell k3⟩
  have KAL := Lib.hid keepAl; clear keepAl
  have KST := Lib.hid keepSt; clear keepSt
  have KS := Lib.hid keepS; clear keepS
  have hS0 : Ext ws ws.drew ∧ ws.drew.cell? ⟨w.heap.size, 0, none⟩ = some (.slice a0 n c0) ∧ ws.drew.cell? ⟨w.heap.size, 1, none⟩ = some (.slice a1 m c1) ∧ ws.drew.cell? ⟨w.heap.size, 2, none⟩ = some (.slice a2 n c2) ∧ ws.drew.cell? ⟨w.heap.size, 3, none⟩ = some (.slice a3 n c3) := ⟨(Ext.refl _).drew, k0, k1, k2, k3⟩
  have HS0 := Lib.hid hS0; clear hS0
  go_enter Try.func25, Try.ntmps25
  go_upto_region 1 with fail
  rw [HWS.out]
  go_cut [11] from 11 to 22 (fun s11 wx => ∃ (B l1 h1 l2 h2 : Nat) (a4 a5 : Option Addr) (c4 c5 : Nat) (r4 r5 : List Value), s11 = .pointer (some ⟨B, 0, none⟩) ∧ ws.heap.size ≤ l1 ∧ l1 ≤ h1 ∧ h1 ≤ l2 ∧ l2 ≤ h2 ∧ h2 ≤ wx.heap.size ∧ ws.heap.size ≤ B ∧ (B < l1 ∨ (h1 ≤ B ∧ B < l2) ∨ h2 ≤ B) ∧ n ≤ c4 ∧ c4 ≤ 9223372036854775807 ∧ n ≤ c5 ∧ c5 ≤ 9223372036854775807 ∧
    Box wx B 38 #[.slice a0 n c0, .slice a1 m c1, .slice a4 T.lo.length c4, .slice a5 T.hi.length c5] ∧ OwnGA l1 h1 wx a4 r4 T.lo ∧ OwnGA l2 h2 wx a5 r5 T.hi ∧ Ext ws wx)
  case first =>
    go_region_held3 (fun x => Ext ws x ∧ x.cell? ⟨w.heap.size, 0, none⟩ = some (.slice a0 n c0) ∧ x.cell? ⟨w.heap.size, 1, none⟩ = some (.slice a1 m c1) ∧ x.cell? ⟨w.heap.size, 2, none⟩ = some (.slice a2 n c2) ∧ x.cell? ⟨w.heap.size, 3, none⟩ = some (.slice a3 n c3))
      (first | exact HS0.out | exact KS.out _ _ (by assumption) u5 | exact KS.out _ _ (by assumption) u4 | exact KS.out _ _ (by assumption) ((Ext.refl _).alloc _) | exact KAL.out _ _ _ (by assumption) (show ws.heap.size ≤ w5.heap.size from Nat.le_trans u4.size u5.size) | exact KST.out _ _ _ _ _ _ (by assumption) (Nat.le_refl _) | exact KST.out _ _ _ _ _ _ (by assumption) (show ws.heap.size ≤ w4.heap.size from u4.size) | go_keep)
      ((first
        | (go_at_call 37; (with_reducible refine (tOwn_c (.slice a3 n c3) T.hi _ ((H.out.f3.ext u0).ext (show Ext ws _ from And.left (by assumption))) HH.out.1 HH.out.2.1 HH.out.2.2).mono ?_); rintro e w5 ⟨x5, r5, rfl, o5, u5⟩; obtain ⟨a5, c5, rfl, q51, q52, q53⟩ := o5; have O5 := Lib.hid q53; clear q53; try (first | (have bz := (Box.new w4 38 #[.slice none 0 0, .slice none 0 0, .slice none 0 0, .slice none 0 0] rfl).ext u5; have bf0 := bz.free 0; have bf1 := bz.free 1; have bf2 := bz.free 2; have bf3 := bz.free 3; have bc0 := bz.cell 0 (by simp); have bc1 := bz.cell 1 (by simp); have bc2 := bz.cell 2 (by simp); have bc3 := bz.cell 3 (by simp); clear bz) | (have bz := (((Box.new ws 38 #[.slice none 0 0, .slice none 0 0, .slice none 0 0, .slice none 0 0] rfl).drew).ext u4).ext u5; have bf0 := bz.free 0; have bf1 := bz.free 1; have bf2 := bz.free 2; have bf3 := bz.free 3; have bc0 := bz.cell 0 (by simp); have bc1 := bz.cell 1 (by simp); have bc2 := bz.cell 2 (by simp); have bc3 := bz.cell 3 (by simp); clear bz)))
        | (go_at_call 37; (with_reducible refine (tOwn_c (.slice a2 n c2) T.lo _ ((H.out.f2.ext u0).ext (show Ext ws _ from And.left (by assumption))) HL.out.1 HL.out.2.1 HL.out.2.2).mono ?_); rintro e w4 ⟨x4, r4, rfl, o4, u4⟩; obtain ⟨a4, c4, rfl, q41, q42, q43⟩ := o4; have O4 := Lib.hid q43; clear q43)))
    · have e4 : ws.heap.size ≤ w4.heap.size := u4.size
      have e5 := u5.size
      have q1 : n ≤ c4 := by have := HLL.out; omega
      have q2 : n ≤ c5 := by have := HLH.out; omega
      have hx := (((Ext.refl ws).drew.trans u4).trans u5).alloc (.cells #[.slice a0 n c0, .slice a1 m c1, .slice a4 T.lo.length c4, .slice a5 T.hi.length c5] 38)
      have hb := Box.new w5 38 #[.slice a0 n c0, .slice a1 m c1, .slice a4 T.lo.length c4, .slice a5 T.hi.length c5] rfl
      have g4 := ((O4.out.ext u5).ext ((Ext.refl w5).alloc (.cells #[.slice a0 n c0, .slice a1 m c1, .slice a4 T.lo.length c4, .slice a5 T.hi.length c5] 38))).mono (lo' := ws.heap.size) (Nat.le_refl _) (Nat.le_refl _)
      have g5 := O5.out.ext ((Ext.refl w5).alloc (.cells #[.slice a0 n c0, .slice a1 m c1, .slice a4 T.lo.length c4, .slice a5 T.hi.length c5] 38))
      have HA := Lib.hid (And.intro hx (And.intro hb (And.intro g4 g5))); clear hx hb g4 g5
      have hsz : w5.heap.size ≤ (w5.alloc (.cells #[.slice a0 n c0, .slice a1 m c1, .slice a4 T.lo.length c4, .slice a5 T.hi.length c5] 38)).heap.size := by simp
      have HSZ2 := Lib.hid hsz; clear hsz
      go_wp2_with fail
      go_meet
      exact ⟨w5.heap.size, ws.heap.size, w4.heap.size, w4.heap.size, w5.heap.size, a4, a5, c4, c5, r4, r5, rfl, Nat.le_refl _, e4, Nat.le_refl _, e5, HSZ2.out, by omega, by omega, q1, q42, q2, q52, HA.out.2.1, HA.out.2.2.1, HA.out.2.2.2, HA.out.1⟩
    · have e4 : ws.heap.size ≤ w4.heap.size := u4.size
      have e5 : w4.heap.size + 1 ≤ w5.heap.size := by have := u5.size; simp at this; omega
      have q1 : n ≤ c4 := by have := HLL.out; omega
      have q2 : n ≤ c5 := by have := HLH.out; omega
      have ua := (Ext.refl w4).alloc (.cells #[.slice none 0 0, .slice none 0 0, .slice none 0 0, .slice none 0 0] 38)
      have hx := ((((Ext.refl ws).drew.trans u4).trans ua).trans u5).put4 (B := w4.heap.size) e4 (.slice a0 n c0) (.slice a1 m c1) (.slice a4 T.lo.length c4) (.slice a5 T.hi.length c5)
      have bz := (Box.new w4 38 #[.slice none 0 0, .slice none 0 0, .slice none 0 0, .slice none 0 0] rfl).ext u5
      have hb := (((bz.set 0 (.slice a0 n c0)).set 1 (.slice a1 m c1)).set 2 (.slice a4 T.lo.length c4)).set 3 (.slice a5 T.hi.length c5)
      have g4 := (((O4.out.ext ua).ext u5).mono (lo' := ws.heap.size) (Nat.le_refl _) (Nat.le_refl _)).put4 (B := w4.heap.size) (.inr (Nat.le_refl _)) (.slice a0 n c0) (.slice a1 m c1) (.slice a4 T.lo.length c4) (.slice a5 T.hi.length c5)
      have g5 := (O5.out.mono (lo' := w4.heap.size + 1) (by simp) (Nat.le_refl _)).put4 (B := w4.heap.size) (.inl (Nat.lt_succ_self _)) (.slice a0 n c0) (.slice a1 m c1) (.slice a4 T.lo.length c4) (.slice a5 T.hi.length c5)
      have hsz : w5.heap.size ≤ (put4 w5 w4.heap.size (.slice a0 n c0) (.slice a1 m c1) (.slice a4 T.lo.length c4) (.slice a5 T.hi.length c5)).heap.size := by rw [put4_size]; exact Nat.le_refl _
      have HA := Lib.hid (And.intro hx (And.intro hb (And.intro g4 (And.intro g5 hsz)))); clear hx hb g4 g5 ua bz hsz
      go_wp2_with fail
      go_meet
      exact ⟨w4.heap.size, ws.heap.size, w4.heap.size, w4.heap.size + 1, w5.heap.size, a4, a5, c4, c5, r4, r5, rfl, Nat.le_refl _, e4, Nat.le_succ _, e5, HA.out.2.2.2.2, e4, by omega, q1, q42, q2, q52, HA.out.2.1, HA.out.2.2.1, HA.out.2.2.2.1, HA.out.1⟩
    · have e4 : ws.heap.size + 1 ≤ w4.heap.size := by have := u4.size; simp at this; omega
      have e5 := u5.size
      have q1 : n ≤ c4 := by have := HLL.out; omega
      have q2 : n ≤ c5 := by have := HLH.out; omega
      have ua := ((Ext.refl ws).alloc (.cells #[.slice none 0 0, .slice none 0 0, .slice none 0 0, .slice none 0 0] 38)).drew
      have hx := ((ua.trans u4).trans u5).put4 (B := ws.heap.size) (Nat.le_refl _) (.slice a0 n c0) (.slice a1 m c1) (.slice a4 T.lo.length c4) (.slice a5 T.hi.length c5)
      have bz := (((Box.new ws 38 #[.slice none 0 0, .slice none 0 0, .slice none 0 0, .slice none 0 0] rfl).drew).ext u4).ext u5
      have hb := (((bz.set 0 (.slice a0 n c0)).set 1 (.slice a1 m c1)).set 2 (.slice a4 T.lo.length c4)).set 3 (.slice a5 T.hi.length c5)
      have g4 := ((O4.out.ext u5).mono (lo' := ws.heap.size + 1) (by simp) (Nat.le_refl _)).put4 (B := ws.heap.size) (.inl (Nat.lt_succ_self _)) (.slice a0 n c0) (.slice a1 m c1) (.slice a4 T.lo.length c4) (.slice a5 T.hi.length c5)
      have g5 := O5.out.put4 (B := ws.heap.size) (.inl (by omega)) (.slice a0 n c0) (.slice a1 m c1) (.slice a4 T.lo.length c4) (.slice a5 T.hi.length c5)
      have hsz : w5.heap.size ≤ (put4 w5 ws.heap.size (.slice a0 n c0) (.slice a1 m c1) (.slice a4 T.lo.length c4) (.slice a5 T.hi.length c5)).heap.size := by rw [put4_size]; exact Nat.le_refl _
      have HA := Lib.hid (And.intro hx (And.intro hb (And.intro g4 (And.intro g5 hsz)))); clear hx hb g4 g5 ua bz hsz
      go_wp2_with fail
      go_meet
      exact ⟨ws.heap.size, ws.heap.size + 1, w4.heap.size, w4.heap.size, w5.heap.size, a4, a5, c4, c5, r4, r5, rfl, Nat.le_succ _, e4, Nat.le_refl _, e5, HA.out.2.2.2.2, Nat.le_refl _, by omega, q1, q42, q2, q52, HA.out.2.1, HA.out.2.2.1, HA.out.2.2.2.1, HA.out.1⟩
  case rest =>
    obtain ⟨B, l1, h1, l2, h2, a4, a5, c4, c5, r4, r5, rfl, e1, e2, e3, e4, e5, eB, eBB, q1, q2, q3, q4, hb, g4, g5, hx⟩ := hcut
    obtain ⟨wF, rfl⟩ : ∃ wF : World, wF = wc := ⟨_, rfl⟩
    rw [HLL.out, HLH.out] at hb
    have HG5 := Lib.hid g5; clear g5
    have hbr := br.ext hx
    have hsz := HSZ.out
    -- the first store
    have hil : i < T.lo.length := by rw [HLL.out]; exact hi'
    obtain ⟨bp, op, ex, _, _, _, hcp, _⟩ := g4.at_ (k := i) hil
    obtain ⟨ap, cp, evp, ip1, ip2⟩ := g4.rowForm (k := i) hil
    have hst := g4.store (k := i) (l := j) hil (by rw [HRL.out i hi']; exact hj') evp
    rw [evp, HRL.out i hi'] at hcp
    rw [HRL.out i hi'] at ip1
    obtain ⟨bq, oq, q5, lq1, lq2, lq3, hcq, hfq, st⟩ := hst
    subst q5 ex
    have hst := st lo; clear st evp
    have z2 := hb.cell 2 (by simp)
    have hb1 := hb.setOther (a := ⟨bq, oq + j, none⟩) (by simp only; omega) (.int .i64 lo)
    have hbr1 := hbr.setOther (a := ⟨bq, oq + j, none⟩) (by simp only; omega) (.int .i64 lo)
    have hx1 := hx.setCell (a := ⟨bq, oq + j, none⟩) (.int .i64 lo) (by simp only; omega)
    have g5 := HG5.out.put_away ⟨bq, oq + j, none⟩ (.int .i64 lo) (.inl (by simp only; omega))
    clear HG5
    -- the second
    have hih : i < T.hi.length := by rw [HLH.out]; exact hi'
    obtain ⟨bt, ot, ex, _, _, _, hct, _⟩ := g5.at_ (k := i) hih
    obtain ⟨at_, ct, evt, it1, it2⟩ := g5.rowForm (k := i) hih
    have hst2 := g5.store (k := i) (l := j) hih (by rw [HRH.out i hi']; exact hj') evt
    rw [evt, HRH.out i hi'] at hct
    rw [HRH.out i hi'] at it1
    obtain ⟨bu, ou, q6, lu1, lu2, lu3, hcu, hfu, st⟩ := hst2
    subst q6 ex
    have hst2 := st hi; clear st evt
    have y3 := hb1.cell 3 (by simp)
    have hb2 := hb1.setOther (a := ⟨bu, ou + j, none⟩) (by simp only; omega) (.int .i64 hi)
    have hbr2 := hbr1.setOther (a := ⟨bu, ou + j, none⟩) (by simp only; omega) (.int .i64 hi)
    have hx2 := hx1.setCell (a := ⟨bu, ou + j, none⟩) (.int .i64 hi) (by simp only; omega)
    have hst1 := hst.put_away ⟨bu, ou + j, none⟩ (.int .i64 hi) (.inr (by simp only; omega))
    have x0 := hb2.cell 0 (by simp)
    have x1 := hb2.cell 1 (by simp)
    have x2 := hb2.cell 2 (by simp)
    have x3 := hb2.cell 3 (by simp)
    have f0 := hbr2.free 0
    have f1 := hbr2.free 1
    have f2 := hbr2.free 2
    have f3 := hbr2.free 3
    have p0 := hbr2.cell 0 (by simp)
    have p1 := hbr2.cell 1 (by simp)
    have p2 := hbr2.cell 2 (by simp)
    have p3 := hbr2.cell 3 (by simp)
    have HFIN := Lib.hid (And.intro (hst1.put4 (B := w.heap.size + 1) (.inl (by omega)) (.slice a0 n c0) (.slice a1 m c1) (.slice (some ⟨bp, op, none⟩) n c4) (.slice (some ⟨bt, ot, none⟩) n c5)) (And.intro (hst2.put4 (B := w.heap.size + 1) (.inl (by omega)) (.slice a0 n c0) (.slice a1 m c1) (.slice (some ⟨bp, op, none⟩) n c4) (.slice (some ⟨bt, ot, none⟩) n c5)) ((u0.trans hx2).put4 (B := w.heap.size + 1) (by omega) (.slice a0 n c0) (.slice a1 m c1) (.slice (some ⟨bp, op, none⟩) n c4) (.slice (some ⟨bt, ot, none⟩) n c5))))
    have hszf : h2 ≤ (put4 ((wF.setCell ⟨bq, oq + j, none⟩ (.int .i64 lo)).setCell ⟨bu, ou + j, none⟩ (.int .i64 hi)) (w.heap.size + 1) (.slice a0 n c0) (.slice a1 m c1) (.slice (some ⟨bp, op, none⟩) n c4) (.slice (some ⟨bt, ot, none⟩) n c5)).heap.size := by
      rw [put4_size]; simp only [World.size_setCell]; exact e5
    have HSF := Lib.hid hszf; clear hszf
    have hgg := (((hbr2.set 0 (.slice a0 n c0)).set 1 (.slice a1 m c1)).set 2 (.slice (some ⟨bp, op, none⟩) n c4)).set 3 (.slice (some ⟨bt, ot, none⟩) n c5)
    have g0 := hgg.cell 0 (by simp)
    have g1 := hgg.cell 1 (by simp)
    have g2 := hgg.cell 2 (by simp)
    have g3 := hgg.cell 3 (by simp)
    have lo1 : w.heap.size ≤ l1 := by omega
    have lo2 : h1 ≤ l2 := e3
    clear hst hst1 hst2 hb hb1 hb2 hbr hbr1 hbr2 g4 g5 hx hx1 hx2 hgg
    go_wp2
    refine bodyPost_ret (v := .agg #[.slice a0 n c0, .slice a1 m c1, .slice (some ⟨bp, op, none⟩) n c4, .slice (some ⟨bt, ot, none⟩) n c5]) (by simp [results, Try.results25, go_sem, g0, g1, g2, g3]) rfl ⟨_, _, c4, c5, h1, r4, r5, rfl, HFIN.out.1.mono lo1 (Nat.le_refl _), HFIN.out.2.1.mono lo2 HSF.out, q1, q2, q3, q4, HFIN.out.2.2⟩
end Go.Proofs.Ytodnkahnbidgaaa
