/- The next flow in the order of matrices, plain. -/
import Derived.Test.YtjpomfdmgaambaaIfirst
import Derived.Test.YtjpomfdmgaambaaSfirst
import Derived.Test.YtjpomfdmgaambaaMapG
import Derived.Test.YtjpomfdmgaambaaFlowIm
namespace Go.Proofs.Ytjpomfdmgaambaa
open Go.RowKit
open Fm

theorem mapG_rcN {n m : Nat} {x : List (List Int)} (h : Rc n m x) (f : Nat → Nat → Int → Int) : Rc n m (mapG f x) :=
  ⟨by rw [mapG_length, h.len], fun k hk => by rw [rowAt_mapG (by rw [h.len]; exact hk), rowF_length, h.row k hk]⟩
theorem el_mapGN {n m : Nat} {x : List (List Int)} (h : Rc n m x) (f : Nat → Nat → Int → Int) {i j : Nat} (hi : i < n) (hj : j < m) : elOf (mapG f x) i j = f i j (elOf x i j) := by
  unfold elOf
  rw [rowAt_mapG (by rw [h.len]; exact hi), ix_rowF (by rw [h.row i hi]; exact hj)]
theorem rc_ext {n m : Nat} {X Y : List (List Int)} (h : Rc n m X) (k : Rc n m Y) (e : ∀ i j, i < n → j < m → elOf X i j = elOf Y i j) : X = Y := by
  refine list_ext_rowAt (by rw [h.len, k.len]) (fun i hi => ?_)
  rw [h.len] at hi
  refine list_ext_ix (by rw [h.row i hi, k.row i hi]) (fun j hj => ?_)
  rw [h.row i hi] at hj
  exact e i j hi hj
theorem flow_of_ok {T : Tr} {x : List (List Int)} (h : FlowOk T x) : Rc T.rows.length T.cols.length x ∧ Flow (NetT T) (elOf x) := by
  obtain ⟨hs, hf, hr, hc⟩ := h
  have s1 := shapeB_true.1 hs
  have hl : x.length = T.rows.length := by omega
  have rc : Rc T.rows.length T.cols.length x := ⟨hl, fun u hu => by have := s1.2 u (by omega); omega⟩
  refine ⟨rc, fun i j hi hj => (hf i (by rw [hl]; exact hi) j (by rw [rc.row i hi]; exact hj)).1, fun i j hi hj => (hf i (by rw [hl]; exact hi) j (by rw [rc.row i hi]; exact hj)).2, fun i hi => ?_, fun j hj => ?_⟩
  · show _ = ix T.rows i
    rw [← hr, ix_rowS (by rw [hl]; exact hi), rc.rowsum hi]; rfl
  · show _ = ix T.cols j
    have hj' : j < T.cols.length := hj
    rw [← hc, ix_colS hj', rc.colsum j]; rfl

def upLo (X : List (List Int)) (m k i j : Nat) (v : Int) : Int := if i * m + j < k then elOf X i j else if i * m + j = k then elOf X i j + 1 else v
def upHi (X : List (List Int)) (m k i j : Nat) (v : Int) : Int := if i * m + j < k then elOf X i j else v
/-- the network of the flows that agree with X before the position k and are greater there -/
def upT (T : Tr) (X : List (List Int)) (k : Nat) : Tr := ⟨T.rows, T.cols, mapG (upLo X T.cols.length k) T.lo, mapG (upHi X T.cols.length k) T.hi⟩
theorem up_flow {T : Tr} {X : List (List Int)} (ho : TrOk T) (hX : Flow (NetT T) (elOf X)) {i j : Nat} (hi : i < T.rows.length) (hj : j < T.cols.length) (z : Nat → Nat → Int) :
    Flow (NetT (upT T X (i * T.cols.length + j))) z ↔ Flow (NetT T) z ∧ Till T.rows.length T.cols.length (i * T.cols.length + j) z (elOf X) ∧ elOf X i j + 1 ≤ z i j := by
  have eL : ∀ p q, p < T.rows.length → q < T.cols.length → elOf (upT T X (i * T.cols.length + j)).lo p q = upLo X T.cols.length (i * T.cols.length + j) p q (elOf T.lo p q) := fun p q hp hq => el_mapGN ho.rcLo _ hp hq
  have eH : ∀ p q, p < T.rows.length → q < T.cols.length → elOf (upT T X (i * T.cols.length + j)).hi p q = upHi X T.cols.length (i * T.cols.length + j) p q (elOf T.hi p q) := fun p q hp hq => el_mapGN ho.rcHi _ hp hq
  constructor
  · intro h
    have l1 : ∀ p q, p < T.rows.length → q < T.cols.length → elOf (upT T X (i * T.cols.length + j)).lo p q ≤ z p q := h.lo
    have l2 : ∀ p q, p < T.rows.length → q < T.cols.length → z p q ≤ elOf (upT T X (i * T.cols.length + j)).hi p q := h.hi
    have x1 : ∀ p q, p < T.rows.length → q < T.cols.length → elOf T.lo p q ≤ elOf X p q := hX.lo
    have x2 : ∀ p q, p < T.rows.length → q < T.cols.length → elOf X p q ≤ elOf T.hi p q := hX.hi
    refine ⟨⟨fun p q hp hq => ?_, fun p q hp hq => ?_, h.row, h.col⟩, fun p q hp hq hlt => ?_, ?_⟩
    · have a := l1 p q hp hq
      have b := x1 p q hp hq
      rw [eL p q hp hq] at a
      unfold upLo at a
      show elOf T.lo p q ≤ z p q
      split at a
      · omega
      · split at a <;> omega
    · have a := l2 p q hp hq
      have b := x2 p q hp hq
      rw [eH p q hp hq] at a
      unfold upHi at a
      show z p q ≤ elOf T.hi p q
      split at a <;> omega
    · have a := l1 p q hp hq
      have b := l2 p q hp hq
      rw [eL p q hp hq] at a
      rw [eH p q hp hq] at b
      unfold upLo at a
      unfold upHi at b
      rw [if_pos hlt] at a b
      omega
    · have a := l1 i j hi hj
      rw [eL i j hi hj] at a
      unfold upLo at a
      rw [if_neg (by omega), if_pos rfl] at a
      exact a
  · rintro ⟨h, ht, hz⟩
    refine ⟨fun p q hp hq => ?_, fun p q hp hq => ?_, h.row, h.col⟩
    · show elOf (upT T X (i * T.cols.length + j)).lo p q ≤ z p q
      rw [eL p q hp hq]
      unfold upLo
      split
      · rename_i e; rw [ht p q hp hq e]; exact Int.le_refl _
      · split
        · rename_i e; obtain ⟨rfl, rfl⟩ := pos_inj (m := T.cols.length) hj hq e; exact hz
        · exact h.lo p q hp hq
    · show z p q ≤ elOf (upT T X (i * T.cols.length + j)).hi p q
      rw [eH p q hp hq]
      unfold upHi
      split
      · rename_i e; rw [ht p q hp hq e]; exact Int.le_refl _
      · exact h.hi p q hp hq
theorem up_ok {T : Tr} {X : List (List Int)} (ho : TrOk T) (hX : Flow (NetT T) (elOf X)) {i j : Nat} (hi : i < T.rows.length) (hj : j < T.cols.length) (hne : elOf X i j ≠ elOf T.hi i j) : TrOk (upT T X (i * T.cols.length + j)) := by
  refine trOk_of ho.1 ho.2.1 (mapG_rcN ho.rcLo _) (mapG_rcN ho.rcHi _) (fun p q hp hq => ?_)
  have hp' : p < T.rows.length := hp
  have hq' : q < T.cols.length := hq
  show 0 ≤ elOf (mapG (upLo X T.cols.length (i * T.cols.length + j)) T.lo) p q ∧ elOf (mapG (upLo X T.cols.length (i * T.cols.length + j)) T.lo) p q ≤ elOf (mapG (upHi X T.cols.length (i * T.cols.length + j)) T.hi) p q ∧ elOf (mapG (upHi X T.cols.length (i * T.cols.length + j)) T.hi) p q ≤ 100000
  rw [el_mapGN ho.rcLo _ hp' hq', el_mapGN ho.rcHi _ hp' hq']
  have e := ho.el hp' hq'
  have a : elOf T.lo p q ≤ elOf X p q := hX.lo p q hp' hq'
  have b : elOf X p q ≤ elOf T.hi p q := hX.hi p q hp' hq'
  unfold upLo upHi
  split
  · omega
  · split
    · rename_i h1 h2
      obtain ⟨rfl, rfl⟩ := pos_inj (m := T.cols.length) hj hq' h2
      omega
    · exact e
/-- at the upper bound nothing is greater -/
theorem up_none {T : Tr} {X : List (List Int)} (ho : TrOk T) (hX : Flow (NetT T) (elOf X)) {i j : Nat} (hi : i < T.rows.length) (hj : j < T.cols.length) (he : elOf X i j = elOf T.hi i j) : feasB (upT T X (i * T.cols.length + j)) = false := by
  rw [feasB_false]
  rintro ⟨z, hz⟩
  have h := (up_flow ho hX hi hj z).1 hz
  have : z i j ≤ elOf T.hi i j := h.1.hi i j hi hj
  omega
open Classical in
/-- the next flow, looked for from position k - 1 downwards -/
noncomputable def nxTo (T : Tr) (X : List (List Int)) : Nat → Option (List (List Int))
  | 0 => none
  | k + 1 => if feasB (upT T X k) = true then some (firstV (upT T X k)) else nxTo T X k
theorem nx_yes {T : Tr} {X : List (List Int)} {k : Nat} (h : feasB (upT T X k) = true) : nxTo T X (k + 1) = some (firstV (upT T X k)) := by rw [nxTo, if_pos h]
theorem nx_no {T : Tr} {X : List (List Int)} {k : Nat} (h : feasB (upT T X k) = false) : nxTo T X (k + 1) = nxTo T X k := by rw [nxTo, h]; simp
noncomputable def nxV (T : Tr) (X : List (List Int)) : List (List Int) := (nxTo T X (T.rows.length * T.cols.length)).getD []
noncomputable def nxB (T : Tr) (X : List (List Int)) : Bool := (nxTo T X (T.rows.length * T.cols.length)).isSome
noncomputable def nfB (T : Tr) (X : List (List Int)) : Bool := trB T && flowB T X && nxB T X
noncomputable def nfV (T : Tr) (X : List (List Int)) : List (List Int) := if (trB T && flowB T X) = true then nxV T X else []

/-- what one unit from a column to a row says -/
theorem next_plain {T : Tr} {X : List (List Int)} {r' : Nat → Nat → Int} {i j : Nat} {sent : Int} (ho : TrOk T) (hx : Flow (NetT T) (elOf X)) (hi : i < T.rows.length) (hj : j < T.cols.length) (hne : elOf X i j ≠ elOf T.hi i j)
    (h : Pushed (T.rows.length + T.cols.length) (resD T.rows.length (elOf T.lo) (elOf T.hi) (elOf X) (pastB T.cols.length ((i * T.cols.length + j : Nat) : Int))) (T.rows.length + j) i 1 sent r') :
    (sent = 0 ∧ feasB (upT T X (i * T.cols.length + j)) = false) ∨ (sent = 1 ∧ feasB (upT T X (i * T.cols.length + j)) = true ∧ Flow (NetT T) (sentY (NetT T) (elOf X) r' (pastB T.cols.length ((i * T.cols.length + j : Nat) : Int)) i j 1)) := by
  have hP : pastB T.cols.length ((i * T.cols.length + j : Nat) : Int) i j = false := pastB_false.2 (Nat.le_refl _)
  have hhi : elOf X i j ≤ elOf T.hi i j := hx.hi i j hi hj
  have h2 := sendUp (t := NetT T) (P := pastB T.cols.length ((i * T.cols.length + j : Nat) : Int)) hx hi hj hP (lim := 1) ⟨by omega, by show (1 : Int) ≤ elOf T.hi i j - elOf X i j; omega⟩ h
  have hp := h.pos
  have hl := h.le (by omega)
  by_cases hs : sent = 0
  · left
    refine ⟨hs, feasB_false.2 ?_⟩
    rintro ⟨z, hz⟩
    obtain ⟨z1, z2, z3⟩ := (up_flow ho hx hi hj z).1 hz
    rcases h2.2 with hd | hd
    · omega
    · have := hd z z1 (agree_till hj z2)
      rw [sentY_at hP, hs] at this
      omega
  · right
    have h1 : sent = 1 := by omega
    rw [h1] at h2
    refine ⟨h1, feasB_true.2 ⟨_, (up_flow ho hx hi hj _).2 ⟨h2.1, fun a b ha hb hp => sentY_off (pastB_false.2 (by omega)) (fun e => by rw [e.1, e.2] at hp; omega), ?_⟩⟩, h2.1⟩
    rw [sentY_at hP]; exact Int.le_refl _
/-- the flow that is first behind one unit more at (i, j) -/
theorem next_first {T : Tr} {X Y Z : List (List Int)} {i j : Nat} (ho : TrOk T) (hx : Flow (NetT T) (elOf X)) (hi : i < T.rows.length) (hj : j < T.cols.length)
    (ht : Till T.rows.length T.cols.length (i * T.cols.length + j) (elOf Z) (elOf X)) (hz : elOf Z i j = elOf X i j + 1)
    (rc : Rc T.rows.length T.cols.length Y) (hf : Flow (NetT T) (elOf Y)) (hyz : Till T.rows.length T.cols.length (i * T.cols.length + j + 1) (elOf Y) (elOf Z))
    (hl : ∀ p q, p < T.rows.length → q < T.cols.length → i * T.cols.length + j + 1 ≤ p * T.cols.length + q → LeastAt T (elOf Y) p q) : firstV (upT T X (i * T.cols.length + j)) = Y := by
  have hyx : Till T.rows.length T.cols.length (i * T.cols.length + j) (elOf Y) (elOf X) := (hyz.mono (by omega)).trans ht
  have hyij : elOf Y i j = elOf X i j + 1 := by rw [hyz i j hi hj (by omega), hz]
  refine FirstFrom.eq (T := upT T X (i * T.cols.length + j)) ⟨rc, (up_flow ho hx hi hj _).2 ⟨hf, hyx, by omega⟩, fun p q hp hq _ => fun W hW hT => ?_⟩
  have hp' : p < T.rows.length := hp
  have hq' : q < T.cols.length := hq
  have hT' : Till T.rows.length T.cols.length (p * T.cols.length + q) W (elOf Y) := hT
  obtain ⟨w1, w2, w3⟩ := (up_flow ho hx hi hj W).1 hW
  by_cases h1 : p * T.cols.length + q < i * T.cols.length + j
  · rw [hyx p q hp' hq' h1, w2 p q hp' hq' h1]; exact Int.le_refl _
  · by_cases h2 : p * T.cols.length + q = i * T.cols.length + j
    · obtain ⟨rfl, rfl⟩ := pos_inj (m := T.cols.length) hj hq' h2
      omega
    · exact hl p q hp' hq' (by omega) W w1 hT'
end Go.Proofs.Ytjpomfdmgaambaa
