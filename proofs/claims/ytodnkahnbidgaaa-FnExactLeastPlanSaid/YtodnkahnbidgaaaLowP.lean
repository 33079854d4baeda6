/- The least and the greatest value of an element in all flows; a network with other bounds of an element; plain. -/
import Derived.Test.YtodnkahnbidgaaaSwith
import Derived.Test.YtodnkahnbidgaaaRangeP
namespace Go.Proofs.Ytodnkahnbidgaaa
open Go.RowKit
open Fm

def IsLow (T : Tr) (i j : Nat) (v : Int) : Prop := (∃ x, Flow (NetT T) x ∧ x i j = v) ∧ ∀ x, Flow (NetT T) x → v ≤ x i j
def IsHigh (T : Tr) (i j : Nat) (v : Int) : Prop := (∃ x, Flow (NetT T) x ∧ x i j = v) ∧ ∀ x, Flow (NetT T) x → x i j ≤ v
open Classical in
noncomputable def lowV (T : Tr) (i j : Nat) : Int := if h : ∃ v, IsLow T i j v then h.choose else 0
open Classical in
noncomputable def highV (T : Tr) (i j : Nat) : Int := if h : ∃ v, IsHigh T i j v then h.choose else 0
theorem IsLow.eq {T : Tr} {i j : Nat} {v : Int} (h : IsLow T i j v) : lowV T i j = v := by
  have he : ∃ v, IsLow T i j v := ⟨v, h⟩
  unfold lowV
  rw [dif_pos he]
  have h2 := he.choose_spec
  obtain ⟨⟨x, hx, e⟩, h3⟩ := h
  obtain ⟨⟨y, hy, e2⟩, h4⟩ := h2
  have := h3 y hy; have := h4 x hx; omega
theorem IsHigh.eq {T : Tr} {i j : Nat} {v : Int} (h : IsHigh T i j v) : highV T i j = v := by
  have he : ∃ v, IsHigh T i j v := ⟨v, h⟩
  unfold highV
  rw [dif_pos he]
  have h2 := he.choose_spec
  obtain ⟨⟨x, hx, e⟩, h3⟩ := h
  obtain ⟨⟨y, hy, e2⟩, h4⟩ := h2
  have := h3 y hy; have := h4 x hx; omega
theorem low_exists {T : Tr} {i j : Nat} (hi : i < T.rows.length) (hj : j < T.cols.length) : ∀ (k : Nat) (x : Nat → Nat → Int), Flow (NetT T) x → (x i j - elOf T.lo i j).toNat ≤ k → ∃ v, IsLow T i j v
  | k, x, hx, hk => by
    by_cases h : ∃ y, Flow (NetT T) y ∧ y i j < x i j
    · obtain ⟨y, hy, hl⟩ := h
      have h1 : elOf T.lo i j ≤ y i j := hy.lo i j hi hj
      match k with
      | 0 => omega
      | k + 1 => exact low_exists hi hj k y hy (by omega)
    · exact ⟨x i j, ⟨x, hx, rfl⟩, fun y hy => by
        apply Classical.byContradiction
        intro hc
        exact h ⟨y, hy, by omega⟩⟩
theorem high_exists {T : Tr} {i j : Nat} (hi : i < T.rows.length) (hj : j < T.cols.length) : ∀ (k : Nat) (x : Nat → Nat → Int), Flow (NetT T) x → (elOf T.hi i j - x i j).toNat ≤ k → ∃ v, IsHigh T i j v
  | k, x, hx, hk => by
    by_cases h : ∃ y, Flow (NetT T) y ∧ x i j < y i j
    · obtain ⟨y, hy, hl⟩ := h
      have h1 : y i j ≤ elOf T.hi i j := hy.hi i j hi hj
      match k with
      | 0 => omega
      | k + 1 => exact high_exists hi hj k y hy (by omega)
    · exact ⟨x i j, ⟨x, hx, rfl⟩, fun y hy => by
        apply Classical.byContradiction
        intro hc
        exact h ⟨y, hy, by omega⟩⟩
theorem low_is {T : Tr} {i j : Nat} (hi : i < T.rows.length) (hj : j < T.cols.length) (h : ∃ x, Flow (NetT T) x) : IsLow T i j (lowV T i j) := by
  obtain ⟨x, hx⟩ := h
  obtain ⟨v, hv⟩ := low_exists hi hj _ x hx (Nat.le_refl _)
  rw [hv.eq]; exact hv
theorem high_is {T : Tr} {i j : Nat} (hi : i < T.rows.length) (hj : j < T.cols.length) (h : ∃ x, Flow (NetT T) x) : IsHigh T i j (highV T i j) := by
  obtain ⟨x, hx⟩ := h
  obtain ⟨v, hv⟩ := high_exists hi hj _ x hx (Nat.le_refl _)
  rw [hv.eq]; exact hv
theorem low_bound {T : Tr} {i j : Nat} (hi : i < T.rows.length) (hj : j < T.cols.length) (h : ∃ x, Flow (NetT T) x) : elOf T.lo i j ≤ lowV T i j ∧ lowV T i j ≤ highV T i j ∧ highV T i j ≤ elOf T.hi i j := by
  obtain ⟨⟨x, hx, e⟩, h1⟩ := low_is hi hj h
  obtain ⟨⟨y, hy, e2⟩, h2⟩ := high_is hi hj h
  have a1 : elOf T.lo i j ≤ x i j := hx.lo i j hi hj
  have a2 : y i j ≤ elOf T.hi i j := hy.hi i j hi hj
  have := h1 y hy
  omega

theorem el_setEl {n m : Nat} {X : List (List Int)} (h : Rc n m X) {i j : Nat} (hi : i < n) (hj : j < m) (v : Int) (a b : Nat) : elOf (setEl X i j v) a b = if a = i ∧ b = j then v else elOf X a b := h.el_set hi hj v a b
theorem rc_setEl {n m : Nat} {X : List (List Int)} (h : Rc n m X) (i j : Nat) (v : Int) : Rc n m (setEl X i j v) := h.set v
theorem trOk_of {T : Tr} (h1 : sumsB T.rows = true) (h2 : sumsB T.cols = true) (h3 : Rc T.rows.length T.cols.length T.lo) (h4 : Rc T.rows.length T.cols.length T.hi)
    (h5 : ∀ i j, i < T.rows.length → j < T.cols.length → 0 ≤ elOf T.lo i j ∧ elOf T.lo i j ≤ elOf T.hi i j ∧ elOf T.hi i j ≤ 100000) : TrOk T := by
  refine ⟨h1, h2, shapeB_true.2 ⟨by rw [h3.len], fun k hk => by rw [h3.row k (by rw [← h3.len]; exact hk)]⟩, shapeB_true.2 ⟨by rw [h4.len], fun k hk => by rw [h4.row k (by rw [← h4.len]; exact hk)]⟩, fun i hi j hj => ?_⟩
  have hi' : i < T.rows.length := by rw [← h3.len]; exact hi
  have hj' : j < T.cols.length := by rw [← h3.row i hi']; exact hj
  exact h5 i j hi' hj'
theorem withT_ok {T : Tr} (h : TrOk T) {i j : Nat} (hi : i < T.rows.length) (hj : j < T.cols.length) {a b : Int} (hab : 0 ≤ a ∧ a ≤ b ∧ b ≤ 100000) : TrOk (withT T i j a b) :=
  trOk_of h.1 h.2.1 (rc_setEl h.rcLo i j a) (rc_setEl h.rcHi i j b) (fun p q hp hq => by
    show 0 ≤ elOf (setEl T.lo i j a) p q ∧ elOf (setEl T.lo i j a) p q ≤ elOf (setEl T.hi i j b) p q ∧ elOf (setEl T.hi i j b) p q ≤ 100000
    rw [el_setEl h.rcLo hi hj, el_setEl h.rcHi hi hj]
    by_cases e : p = i ∧ q = j
    · rw [if_pos e, if_pos e]; exact hab
    · rw [if_neg e, if_neg e]; exact h.el hp hq)
theorem flow_withT {T : Tr} (h : TrOk T) {i j : Nat} (hi : i < T.rows.length) (hj : j < T.cols.length) {a b : Int} (ha : elOf T.lo i j ≤ a) (hb : b ≤ elOf T.hi i j) (x : Nat → Nat → Int) :
    Flow (NetT (withT T i j a b)) x ↔ Flow (NetT T) x ∧ a ≤ x i j ∧ x i j ≤ b := by
  have eL : ∀ p q, elOf (withT T i j a b).lo p q = if p = i ∧ q = j then a else elOf T.lo p q := fun p q => el_setEl h.rcLo hi hj a p q
  have eH : ∀ p q, elOf (withT T i j a b).hi p q = if p = i ∧ q = j then b else elOf T.hi p q := fun p q => el_setEl h.rcHi hi hj b p q
  constructor
  · intro hx
    have l1 : ∀ p q, p < T.rows.length → q < T.cols.length → elOf (withT T i j a b).lo p q ≤ x p q := hx.lo
    have l2 : ∀ p q, p < T.rows.length → q < T.cols.length → x p q ≤ elOf (withT T i j a b).hi p q := hx.hi
    have h1 := l1 i j hi hj
    have h2 := l2 i j hi hj
    rw [eL, if_pos ⟨rfl, rfl⟩] at h1
    rw [eH, if_pos ⟨rfl, rfl⟩] at h2
    refine ⟨⟨fun p q hp hq => ?_, fun p q hp hq => ?_, hx.row, hx.col⟩, h1, h2⟩
    · show elOf T.lo p q ≤ x p q
      have h3 := l1 p q hp hq
      rw [eL] at h3
      by_cases e : p = i ∧ q = j
      · obtain ⟨rfl, rfl⟩ := e; omega
      · rwa [if_neg e] at h3
    · show x p q ≤ elOf T.hi p q
      have h3 := l2 p q hp hq
      rw [eH] at h3
      by_cases e : p = i ∧ q = j
      · obtain ⟨rfl, rfl⟩ := e; omega
      · rwa [if_neg e] at h3
  · rintro ⟨hx, h1, h2⟩
    refine ⟨fun p q hp hq => ?_, fun p q hp hq => ?_, hx.row, hx.col⟩
    · show elOf (withT T i j a b).lo p q ≤ x p q
      rw [eL]
      by_cases e : p = i ∧ q = j
      · obtain ⟨rfl, rfl⟩ := e; simpa using h1
      · rw [if_neg e]; exact hx.lo p q hp hq
    · show x p q ≤ elOf (withT T i j a b).hi p q
      rw [eH]
      by_cases e : p = i ∧ q = j
      · obtain ⟨rfl, rfl⟩ := e; simpa using h2
      · rw [if_neg e]; exact hx.hi p q hp hq
theorem withT_read {T : Tr} {w : World} {a0 a1 a4 a5 : Option Addr} {c0 c1 c4 c5 n m i j l1 h1 l2 h2 : Nat} {r4 r5 : List Value} {a b : Int} (hn : T.rows.length = n) (hr : Ints w (.slice a0 n c0) T.rows) (hc : Ints w (.slice a1 m c1) T.cols) (ho : TrOk T)
    (g4 : OwnGA l1 h1 w a4 r4 (setEl T.lo i j a)) (g5 : OwnGA l2 h2 w a5 r5 (setEl T.hi i j b)) (q1 : n ≤ c4) (q2 : c4 ≤ 9223372036854775807) (q3 : n ≤ c5) (q4 : c5 ≤ 9223372036854775807) :
    TrR w (.agg #[.slice a0 n c0, .slice a1 m c1, .slice a4 n c4, .slice a5 n c5]) (withT T i j a b) := by
  have e1 : (setEl T.lo i j a).length = n := by rw [setEl_len, ho.rcLo.len, hn]
  have e2 : (setEl T.hi i j b).length = n := by rw [setEl_len, ho.rcHi.len, hn]
  exact ⟨_, _, _, _, rfl, hr, hc, ⟨a4, c4, by show _ = Value.slice a4 (setEl T.lo i j a).length c4; rw [e1], by show (setEl T.lo i j a).length ≤ c4; rw [e1]; exact q1, q2, g4.grid⟩,
    ⟨a5, c5, by show _ = Value.slice a5 (setEl T.hi i j b).length c5; rw [e2], by show (setEl T.hi i j b).length ≤ c5; rw [e2]; exact q3, q4, g5.grid⟩⟩
end Go.Proofs.Ytodnkahnbidgaaa
