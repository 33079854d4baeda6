/- The columns that belong to some rows, the spec's and the program's (printed by gen/mkcols.py). -/
import Derived.Test.YthdfiebacomilaaCutW
import Derived.Test.YthdfiebacomilaaApp
import Derived.Test.YthdfiebacomilaaFillW0
import Derived.Deep.LoopGhost
namespace Go.Proofs.Ythdfiebacomilaa
open Go.RowKit
open Fm

/-- the numbers below n with p, in their order -/
def picked (p : Nat → Bool) : Nat → List Int
  | 0 => []
  | n + 1 => if p n = true then picked p n ++ [(n : Int)] else picked p n
theorem picked_mem {p : Nat → Bool} : ∀ {n : Nat} {k : Nat}, k < (picked p n).length → 0 ≤ ix (picked p n) k ∧ ix (picked p n) k < n
  | 0, k, h => by simp [picked] at h
  | n + 1, k, h => by
    unfold picked at h ⊢
    by_cases e : p n = true
    · rw [if_pos e] at h ⊢
      simp at h
      by_cases e2 : k = (picked p n).length
      · subst e2; rw [ix_append_len]; omega
      · rw [ix_append_left (by omega)]
        have := picked_mem (p := p) (n := n) (k := k) (by omega); omega
    · rw [if_neg e] at h ⊢
      have := picked_mem (p := p) (n := n) (k := k) h; omega
theorem picked_rising {p : Nat → Bool} {N : Int} : ∀ {n : Nat}, (n : Int) ≤ N → Rising N (picked p n)
  | 0, _ => fun k hk => by simp [picked] at hk
  | n + 1, h => by
    have ih := picked_rising (p := p) (N := N) (n := n) (by omega)
    unfold picked
    by_cases e : p n = true
    · rw [if_pos e]
      intro k hk
      simp at hk
      by_cases e2 : k = (picked p n).length
      · subst e2
        refine ⟨by rw [ix_append_len]; omega, fun h0 => ?_⟩
        rw [ix_append_len, ix_append_left (by omega)]
        exact (picked_mem (p := p) (n := n) (by omega)).2
      · have h1 := ih k (by omega)
        rw [ix_append_left (by omega)]
        refine ⟨h1.1, fun h0 => ?_⟩
        rw [ix_append_left (by omega)]; exact h1.2 h0
    · rw [if_neg e]; exact ih
theorem picked_length (p : Nat → Bool) : ∀ n, (picked p n).length ≤ n
  | 0 => by simp [picked]
  | n + 1 => by
    have := picked_length p n
    unfold picked
    split
    · simp; omega
    · omega
def ownUp (T : Tr) (rows : List Int) (j k : Nat) : Int := S k (fun i => if hasI rows (i : Int) = true then elOf T.hi i j else 0)
def lowUp (T : Tr) (rows : List Int) (j k : Nat) : Int := S k (fun i => if hasI rows (i : Int) = true then 0 else elOf T.lo i j)
def colIn (T : Tr) (rows : List Int) (j : Nat) : Bool := decide (ix T.cols j - lowUp T rows j T.rows.length < ownUp T rows j T.rows.length)
theorem up_bound {T : Tr} (h : TrOk T) (rows : List Int) {j k : Nat} (hk : k ≤ T.rows.length) (hj : j < T.cols.length) : 0 ≤ ownUp T rows j k ∧ ownUp T rows j k ≤ 800000 ∧ 0 ≤ lowUp T rows j k ∧ lowUp T rows j k ≤ 800000 := by
  have d := h.dims
  have h1 : 0 ≤ ownUp T rows j k := S_nonneg (fun i hi => by have := h.el (i := i) (j := j) (by omega) hj; split <;> omega)
  have h2 : ownUp T rows j k ≤ S k (fun _ => 100000) := S_le (fun i hi => by have := h.el (i := i) (j := j) (by omega) hj; split <;> omega)
  have h3 : 0 ≤ lowUp T rows j k := S_nonneg (fun i hi => by have := h.el (i := i) (j := j) (by omega) hj; split <;> omega)
  have h4 : lowUp T rows j k ≤ S k (fun _ => 100000) := S_le (fun i hi => by have := h.el (i := i) (j := j) (by omega) hj; split <;> omega)
  have h5 := S_const_le (n := k) (N := 8) (c := 100000) (by omega) (by omega)
  omega
def colsFor (T : Tr) (rows : List Int) : List Int := picked (colIn T rows) T.cols.length

set_option maxRecDepth 100000 in
set_option maxHeartbeats 3200000 in
theorem tColumns_c (v : Value) (T : Tr) (v1 : Value) (rows : List Int) (w : World) (h : TrR w v T) (h1 : Ints w v1 rows) (ho : TrOk T) :
    Calls Try.prog 63 #[v, v1] w (RetInts (fun v' => v') w (colsFor T rows)) := by
  have H := Lib.hid h
  have HO := Lib.hid ho; clear ho
  obtain ⟨a0, c0, a1, c1, a2, c2, a3, c3, rfl, n0, n1, n2, n3⟩ := h.form
  clear h
  have HR := Lib.hid h1
  obtain ⟨ar, cr, rfl, r1, r2, r3⟩ := h1
  clear r3
  obtain ⟨d1, d2, d3, d4, d5, d6⟩ := HO.out.dims
  have D5 := Lib.hid d5; clear d5
  have D6 := Lib.hid d6; clear d6
  have u0 := (Ext.refl w).alloc (.cells #[.slice a0 T.rows.length c0, .slice a1 T.cols.length c1, .slice a2 T.lo.length c2, .slice a3 T.hi.length c3] 29)
  have b0 := Box.new w 29 #[.slice a0 T.rows.length c0, .slice a1 T.cols.length c1, .slice a2 T.lo.length c2, .slice a3 T.hi.length c3] rfl
  have k1 := b0.cell 1 (by simp)
  go_enter Try.func63, Try.ntmps63
  go_wp2
  go_loopg [5, 13] T.cols.length (fun gk r i wr => ∃ k : Nat, gk + k = T.cols.length ∧ i = .int .i64 k ∧ IRow (w.heap.size + 1) wr r (picked (colIn T rows) k) ∧ Ext (w.alloc (.cells #[.slice a0 T.rows.length c0, .slice a1 T.cols.length c1, .slice a2 T.lo.length c2, .slice a3 T.hi.length c3] 29)) wr)
  case atStart => exact ⟨0, rfl, rfl, IRow.nil, Ext.refl _⟩
  case round =>
    obtain ⟨k, hk, rfl, hr, hx⟩ := hrel
    obtain ⟨wo, rfl⟩ : ∃ wo : World, wo = wr := ⟨_, rfl⟩
    have HRW := Lib.hid hr; clear hr
    have hb := b0.ext hx
    have hxw := u0.trans hx
    obtain ⟨ao_, co_, evr⟩ := HRW.out.form
    subst evr
    by_cases hlt : k < T.cols.length
    · obtain ⟨_, _, e9, _, _, gr⟩ := H.out.f1.ext hxw
      simp only [Value.slice.injEq] at e9
      obtain ⟨rfl, _, rfl⟩ := e9
      obtain ⟨b5, o5, rfl, hx5⟩ := gr k hlt
      clear gr
      obtain ⟨_, _, e9, _, _, gl⟩ := H.out.f2.ext hxw
      simp only [Value.slice.injEq] at e9
      obtain ⟨rfl, _, rfl⟩ := e9
      obtain ⟨_, _, e9, _, _, gh⟩ := H.out.f3.ext hxw
      simp only [Value.slice.injEq] at e9
      obtain ⟨rfl, _, rfl⟩ := e9
      have GL := Lib.hid gl; clear gl
      have GH := Lib.hid gh; clear gh
      have hcv := HO.out.colR hlt
      have HR1 := Lib.hid (HR.out.ext hxw)
      have y0 := hb.cell 0 (by simp)
      have y2 := hb.cell 2 (by simp)
      have y3 := hb.cell 3 (by simp)
      obtain ⟨X, hX⟩ : ∃ X, ix T.cols k = X := ⟨_, rfl⟩
      rw [hX] at hx5 hcv
      have HXV := Lib.hid hX; clear hX
      obtain ⟨g0, hg0⟩ : ∃ g, g = gk := ⟨_, rfl⟩
      have HG0 := Lib.hid hg0; clear hg0
      go_wp2
      go_loopg [7, 8, 21] T.rows.length (fun gl s own i wr => ∃ l : Nat, gl + l = T.rows.length ∧ i = .int .i64 l ∧ s = .int .i64 (X - lowUp T rows k l) ∧ own = .int .i64 (ownUp T rows k l) ∧ wo = wr)
      case atStart => exact ⟨0, rfl, rfl, by simp [lowUp, S], by simp [ownUp, S], rfl⟩
      case round =>
        obtain ⟨l, hl, rfl, rfl, rfl, rfl⟩ := hrel
        by_cases hlt2 : l < T.rows.length
        · have q1 := up_bound HO.out rows (k := l) (j := k) (by omega) hlt
          have q2 := up_bound HO.out rows (k := l + 1) (j := k) (by omega) hlt
          have hll : l < T.lo.length := by rw [D5.out]; exact hlt2
          have hlh : l < T.hi.length := by rw [D6.out]; exact hlt2
          obtain ⟨bh, oh, ah, ch, rfl, hch, h1_, h2_, h3_⟩ := GH.out.at_ hlh
          obtain ⟨bl, ol, al, cl, rfl, hcl, l1_, l2_, l3_⟩ := GL.out.at_ hll
          have hrl := HO.out.rowlen hlt2
          obtain ⟨b7, o7, rfl, hx7⟩ := h3_ k (by rw [hrl.2]; exact hlt)
          obtain ⟨b6, o6, rfl, hx6⟩ := l3_ k (by rw [hrl.1]; exact hlt)
          have kl1 : k < (rowAt T.lo l).length := by rw [hrl.1]; exact hlt
          have kh1 : k < (rowAt T.hi l).length := by rw [hrl.2]; exact hlt
          clear h3_ l3_ hrl
          have hcell := HO.out.el hlt2 hlt
          have e3 : ix (rowAt T.hi l) k = elOf T.hi l k := rfl
          have e4 : ix (rowAt T.lo l) k = elOf T.lo l k := rfl
          rw [e3] at hx7
          rw [e4] at hx6
          clear e3 e4
          have s1 : ownUp T rows k (l + 1) = ownUp T rows k l + (if hasI rows (l : Int) = true then elOf T.hi l k else 0) := rfl
          have s2 : lowUp T rows k (l + 1) = lowUp T rows k l + (if hasI rows (l : Int) = true then 0 else elOf T.lo l k) := rfl
          cases hh : hasI rows (l : Int)
          · rw [hh] at s1 s2
            simp only [Bool.false_eq_true, if_false] at s1 s2
            rw [s1, s2] at q2
            have S1 := Lib.hid s1; clear s1
            have S2 := Lib.hid s2; clear s2
            have HH := Lib.hid hh; clear hh
            go_wp2_with fail
            refine (l1Has_b false _ rows _ _ HH.out HR1.out).mono ?_
            rintro e w5 ⟨rfl, rfl⟩
            go_wp2
            go_roundg (gk - 1)
            case rel => exact ⟨l + 1, by omega, by go_num, by rw [S2.out] <;> go_num, by rw [S1.out] <;> go_num, rfl⟩
            case measure => omega
          · rw [hh] at s1 s2
            simp only [if_true] at s1 s2
            rw [s1, s2] at q2
            have S1 := Lib.hid s1; clear s1
            have S2 := Lib.hid s2; clear s2
            have HH := Lib.hid hh; clear hh
            go_wp2_with fail
            refine (l1Has_b true _ rows _ _ HH.out HR1.out).mono ?_
            rintro e w5 ⟨rfl, rfl⟩
            go_wp2
            go_roundg (gk - 1)
            case rel => exact ⟨l + 1, by omega, by go_num, by rw [S2.out] <;> go_num, by rw [S1.out] <;> go_num, rfl⟩
            case measure => omega
        · have hln : l = T.rows.length := by omega
          have q1 := up_bound HO.out rows (k := l) (j := k) (by omega) hlt
          have hin : colIn T rows k = decide (X - lowUp T rows k l < ownUp T rows k l) := by unfold colIn; rw [HXV.out, hln]
          have HIN := Lib.hid hin; clear hin hln
          by_cases hc : X - lowUp T rows k l < ownUp T rows k l
          · have HPK : Hid (picked (colIn T rows) (k + 1) = picked (colIn T rows) k ++ [(k : Int)]) := Lib.hid (by
              show (if _ then _ else _) = _
              rw [if_pos (by rw [HIN.out]; simpa using hc)])
            have hpl := picked_length (colIn T rows) k
            have hown := HRW.out.ext ((Ext.refl wo).alloc (.cells #[.int .i64 k] 3))
            have HOWN := Lib.hid hown
            unfold IRow at hown
            have HOW2 := Lib.hid hown; clear hown
            have hs := hxw.size
            have hs2 := hb.lt
            go_wp2_with (at_builtin; go_loud (refine app1 _ rfl _ _ 22 3 rfl (.int .i64 0) 8 Try.underlying22 info_int rfl (w.heap.size + 1) _ (picked (colIn T rows) k).length _ rfl HOW2.out wo.heap.size 1 3 (.int .i64 k) rfl (Box.new _ _ _ rfl) rfl (by omega) (by omega) (by simp; omega) ?_))
            intro g cp w3 hown3 hgrow hat hlt3
            have hx3 := HOWN.out.grew (hx.alloc _) (by simp) hgrow
            have HO3 := Lib.hid hown3; clear hown3
            have HX3 := Lib.hid hx3; clear hx3
            clear hgrow
            go_wp2
            go_roundg (g0 - 1)
            case rel => exact ⟨k + 1, by have := HG0.out; omega, by go_num, by rw [HPK.out]; exact IRow.push (by simpa using HO3.out), HX3.out⟩
            case measure => have := HG0.out; omega
          · have HPK : Hid (picked (colIn T rows) (k + 1) = picked (colIn T rows) k) := Lib.hid (by
              show (if _ then _ else _) = _
              rw [if_neg (by rw [HIN.out]; simpa using hc)])
            go_wp2
            go_roundg (g0 - 1)
            case rel => exact ⟨k + 1, by have := HG0.out; omega, by go_num, by rw [HPK.out]; exact HRW.out, hx⟩
            case measure => have := HG0.out; omega
    · have hkm : k = T.cols.length := by omega
      have HKM := Lib.hid hkm; clear hkm
      go_wp2
      go_ret
      exact ⟨.slice ao_ (picked (colIn T rows) k).length co_, rfl, by have h9 := (HRW.out.own (Nat.le_refl _)).mono (lo' := w.heap.size) (by omega) (Nat.le_refl _); rw [HKM.out] at h9 ⊢; exact h9, hxw⟩

set_option maxRecDepth 100000 in
set_option maxHeartbeats 3200000 in
theorem colsFor_c (v : Value) (T : Tr) (v1 : Value) (rows : List Int) (w : World) (h : TrR w v T) (h1 : Ints w v1 rows) (ho : TrOk T) :
    Calls Try.prog 65 #[v, v1] w (RetInts (fun v' => v') w (colsFor T rows)) := by
  have H := Lib.hid h
  have HO := Lib.hid ho; clear ho
  obtain ⟨a0, c0, a1, c1, a2, c2, a3, c3, rfl, n0, n1, n2, n3⟩ := h.form
  clear h
  have HR := Lib.hid h1
  obtain ⟨ar, cr, rfl, r1, r2, r3⟩ := h1
  clear r3
  obtain ⟨d1, d2, d3, d4, d5, d6⟩ := HO.out.dims
  have D5 := Lib.hid d5; clear d5
  have D6 := Lib.hid d6; clear d6
  have u0 := (Ext.refl w).alloc (.cells #[.slice a0 T.rows.length c0, .slice a1 T.cols.length c1, .slice a2 T.lo.length c2, .slice a3 T.hi.length c3] 29)
  have b0 := Box.new w 29 #[.slice a0 T.rows.length c0, .slice a1 T.cols.length c1, .slice a2 T.lo.length c2, .slice a3 T.hi.length c3] rfl
  have k1 := b0.cell 1 (by simp)
  go_enter Try.func65, Try.ntmps65
  go_wp2
  go_loopg [5, 13] T.cols.length (fun gk r i wr => ∃ k : Nat, gk + k = T.cols.length ∧ i = .int .i64 k ∧ IRow (w.heap.size + 1) wr r (picked (colIn T rows) k) ∧ Ext (w.alloc (.cells #[.slice a0 T.rows.length c0, .slice a1 T.cols.length c1, .slice a2 T.lo.length c2, .slice a3 T.hi.length c3] 29)) wr)
  case atStart => exact ⟨0, rfl, rfl, IRow.nil, Ext.refl _⟩
  case round =>
    obtain ⟨k, hk, rfl, hr, hx⟩ := hrel
    obtain ⟨wo, rfl⟩ : ∃ wo : World, wo = wr := ⟨_, rfl⟩
    have HRW := Lib.hid hr; clear hr
    have hb := b0.ext hx
    have hxw := u0.trans hx
    obtain ⟨ao_, co_, evr⟩ := HRW.out.form
    subst evr
    by_cases hlt : k < T.cols.length
    · obtain ⟨_, _, e9, _, _, gr⟩ := H.out.f1.ext hxw
      simp only [Value.slice.injEq] at e9
      obtain ⟨rfl, _, rfl⟩ := e9
      obtain ⟨b5, o5, rfl, hx5⟩ := gr k hlt
      clear gr
      obtain ⟨_, _, e9, _, _, gl⟩ := H.out.f2.ext hxw
      simp only [Value.slice.injEq] at e9
      obtain ⟨rfl, _, rfl⟩ := e9
      obtain ⟨_, _, e9, _, _, gh⟩ := H.out.f3.ext hxw
      simp only [Value.slice.injEq] at e9
      obtain ⟨rfl, _, rfl⟩ := e9
      have GL := Lib.hid gl; clear gl
      have GH := Lib.hid gh; clear gh
      have hcv := HO.out.colR hlt
      have HR1 := Lib.hid (HR.out.ext hxw)
      have y0 := hb.cell 0 (by simp)
      have y2 := hb.cell 2 (by simp)
      have y3 := hb.cell 3 (by simp)
      obtain ⟨X, hX⟩ : ∃ X, ix T.cols k = X := ⟨_, rfl⟩
      rw [hX] at hx5 hcv
      have HXV := Lib.hid hX; clear hX
      obtain ⟨g0, hg0⟩ : ∃ g, g = gk := ⟨_, rfl⟩
      have HG0 := Lib.hid hg0; clear hg0
      go_wp2
      go_loopg [7, 8, 21] T.rows.length (fun gl s own i wr => ∃ l : Nat, gl + l = T.rows.length ∧ i = .int .i64 l ∧ s = .int .i64 (X - lowUp T rows k l) ∧ own = .int .i64 (ownUp T rows k l) ∧ wo = wr)
      case atStart => exact ⟨0, rfl, rfl, by simp [lowUp, S], by simp [ownUp, S], rfl⟩
      case round =>
        obtain ⟨l, hl, rfl, rfl, rfl, rfl⟩ := hrel
        by_cases hlt2 : l < T.rows.length
        · have q1 := up_bound HO.out rows (k := l) (j := k) (by omega) hlt
          have q2 := up_bound HO.out rows (k := l + 1) (j := k) (by omega) hlt
          have hll : l < T.lo.length := by rw [D5.out]; exact hlt2
          have hlh : l < T.hi.length := by rw [D6.out]; exact hlt2
          obtain ⟨bh, oh, ah, ch, rfl, hch, h1_, h2_, h3_⟩ := GH.out.at_ hlh
          obtain ⟨bl, ol, al, cl, rfl, hcl, l1_, l2_, l3_⟩ := GL.out.at_ hll
          have hrl := HO.out.rowlen hlt2
          obtain ⟨b7, o7, rfl, hx7⟩ := h3_ k (by rw [hrl.2]; exact hlt)
          obtain ⟨b6, o6, rfl, hx6⟩ := l3_ k (by rw [hrl.1]; exact hlt)
          have kl1 : k < (rowAt T.lo l).length := by rw [hrl.1]; exact hlt
          have kh1 : k < (rowAt T.hi l).length := by rw [hrl.2]; exact hlt
          clear h3_ l3_ hrl
          have hcell := HO.out.el hlt2 hlt
          have e3 : ix (rowAt T.hi l) k = elOf T.hi l k := rfl
          have e4 : ix (rowAt T.lo l) k = elOf T.lo l k := rfl
          rw [e3] at hx7
          rw [e4] at hx6
          clear e3 e4
          have s1 : ownUp T rows k (l + 1) = ownUp T rows k l + (if hasI rows (l : Int) = true then elOf T.hi l k else 0) := rfl
          have s2 : lowUp T rows k (l + 1) = lowUp T rows k l + (if hasI rows (l : Int) = true then 0 else elOf T.lo l k) := rfl
          cases hh : hasI rows (l : Int)
          · rw [hh] at s1 s2
            simp only [Bool.false_eq_true, if_false] at s1 s2
            rw [s1, s2] at q2
            have S1 := Lib.hid s1; clear s1
            have S2 := Lib.hid s2; clear s2
            have HH := Lib.hid hh; clear hh
            go_wp2_with fail
            refine (containsI_b false _ rows _ _ HH.out HR1.out).mono ?_
            rintro e w5 ⟨rfl, rfl⟩
            go_wp2
            go_roundg (gk - 1)
            case rel => exact ⟨l + 1, by omega, by go_num, by rw [S2.out] <;> go_num, by rw [S1.out] <;> go_num, rfl⟩
            case measure => omega
          · rw [hh] at s1 s2
            simp only [if_true] at s1 s2
            rw [s1, s2] at q2
            have S1 := Lib.hid s1; clear s1
            have S2 := Lib.hid s2; clear s2
            have HH := Lib.hid hh; clear hh
            go_wp2_with fail
            refine (containsI_b true _ rows _ _ HH.out HR1.out).mono ?_
            rintro e w5 ⟨rfl, rfl⟩
            go_wp2
            go_roundg (gk - 1)
            case rel => exact ⟨l + 1, by omega, by go_num, by rw [S2.out] <;> go_num, by rw [S1.out] <;> go_num, rfl⟩
            case measure => omega
        · have hln : l = T.rows.length := by omega
          have q1 := up_bound HO.out rows (k := l) (j := k) (by omega) hlt
          have hin : colIn T rows k = decide (X - lowUp T rows k l < ownUp T rows k l) := by unfold colIn; rw [HXV.out, hln]
          have HIN := Lib.hid hin; clear hin hln
          by_cases hc : X - lowUp T rows k l < ownUp T rows k l
          · have HPK : Hid (picked (colIn T rows) (k + 1) = picked (colIn T rows) k ++ [(k : Int)]) := Lib.hid (by
              show (if _ then _ else _) = _
              rw [if_pos (by rw [HIN.out]; simpa using hc)])
            have hpl := picked_length (colIn T rows) k
            have hown := HRW.out.ext ((Ext.refl wo).alloc (.cells #[.int .i64 k] 3))
            have HOWN := Lib.hid hown
            unfold IRow at hown
            have HOW2 := Lib.hid hown; clear hown
            have hs := hxw.size
            have hs2 := hb.lt
            go_wp2_with (at_builtin; go_loud (refine app1 _ rfl _ _ 22 3 rfl (.int .i64 0) 8 Try.underlying22 info_int rfl (w.heap.size + 1) _ (picked (colIn T rows) k).length _ rfl HOW2.out wo.heap.size 1 3 (.int .i64 k) rfl (Box.new _ _ _ rfl) rfl (by omega) (by omega) (by simp; omega) ?_))
            intro g cp w3 hown3 hgrow hat hlt3
            have hx3 := HOWN.out.grew (hx.alloc _) (by simp) hgrow
            have HO3 := Lib.hid hown3; clear hown3
            have HX3 := Lib.hid hx3; clear hx3
            clear hgrow
            go_wp2
            go_roundg (g0 - 1)
            case rel => exact ⟨k + 1, by have := HG0.out; omega, by go_num, by rw [HPK.out]; exact IRow.push (by simpa using HO3.out), HX3.out⟩
            case measure => have := HG0.out; omega
          · have HPK : Hid (picked (colIn T rows) (k + 1) = picked (colIn T rows) k) := Lib.hid (by
              show (if _ then _ else _) = _
              rw [if_neg (by rw [HIN.out]; simpa using hc)])
            go_wp2
            go_roundg (g0 - 1)
            case rel => exact ⟨k + 1, by have := HG0.out; omega, by go_num, by rw [HPK.out]; exact HRW.out, hx⟩
            case measure => have := HG0.out; omega
    · have hkm : k = T.cols.length := by omega
      have HKM := Lib.hid hkm; clear hkm
      go_wp2
      go_ret
      exact ⟨.slice ao_ (picked (colIn T rows) k).length co_, rfl, by have h9 := (HRW.out.own (Nat.le_refl _)).mono (lo' := w.heap.size) (by omega) (Nat.le_refl _); rw [HKM.out] at h9 ⊢; exact h9, hxw⟩
end Go.Proofs.Ythdfiebacomilaa
