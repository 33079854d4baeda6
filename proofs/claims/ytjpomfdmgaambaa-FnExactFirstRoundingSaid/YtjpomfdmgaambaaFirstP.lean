/- The first flow in the order of matrices, plain. -/
import Derived.Test.YtjpomfdmgaambaaLowP
namespace Go.Proofs.Ytjpomfdmgaambaa
open Go.RowKit
open Fm

/-- y and z agree before the position q -/
def Till (n m q : Nat) (y z : Nat → Nat → Int) : Prop := ∀ i j, i < n → j < m → i * m + j < q → y i j = z i j
theorem Till.mono {n m q q' : Nat} {y z : Nat → Nat → Int} (h : Till n m q y z) (hq : q' ≤ q) : Till n m q' y z := fun i j hi hj hp => h i j hi hj (by omega)
theorem Till.trans {n m q : Nat} {x y z : Nat → Nat → Int} (h : Till n m q x y) (k : Till n m q y z) : Till n m q x z := fun i j hi hj hp => (h i j hi hj hp).trans (k i j hi hj hp)
theorem Till.symm {n m q : Nat} {x y : Nat → Nat → Int} (h : Till n m q x y) : Till n m q y x := fun i j hi hj hp => (h i j hi hj hp).symm
/-- among the flows that agree with X before (i, j), none is smaller there -/
def LeastAt (T : Tr) (X : Nat → Nat → Int) (i j : Nat) : Prop := ∀ Y, Flow (NetT T) Y → Till T.rows.length T.cols.length (i * T.cols.length + j) Y X → X i j ≤ Y i j
/-- a flow, least at each position from q on -/
structure FirstFrom (T : Tr) (q : Nat) (X : List (List Int)) : Prop where
  rc : Rc T.rows.length T.cols.length X
  flow : Flow (NetT T) (elOf X)
  least : ∀ i j, i < T.rows.length → j < T.cols.length → q ≤ i * T.cols.length + j → LeastAt T (elOf X) i j
theorem pos_div {m i j : Nat} (hj : j < m) : (i * m + j) / m = i ∧ (i * m + j) % m = j := by
  have hm : 0 < m := by omega
  constructor
  · rw [Nat.mul_comm, Nat.mul_add_div hm, Nat.div_eq_of_lt hj]; omega
  · rw [Nat.mul_comm, Nat.mul_add_mod, Nat.mod_eq_of_lt hj]
/-- two flows that agree before q and are least from there on are one -/
theorem FirstFrom.same {T : Tr} {q : Nat} {X Y : List (List Int)} (h : FirstFrom T q X) (k : FirstFrom T q Y) (ht : Till T.rows.length T.cols.length q (elOf X) (elOf Y)) : X = Y := by
  have key : ∀ p, Till T.rows.length T.cols.length p (elOf X) (elOf Y) := by
    intro p
    induction p with
    | zero => intro i j _ _ hp; omega
    | succ p ih =>
      intro i j hi hj hp
      by_cases e : i * T.cols.length + j < p
      · exact ih i j hi hj e
      · by_cases hq : i * T.cols.length + j < q
        · exact ht i j hi hj hq
        · have ep : i * T.cols.length + j = p := by omega
          have h1 := h.least i j hi hj (by omega) (elOf Y) k.flow (by rw [ep]; exact ih.symm)
          have h2 := k.least i j hi hj (by omega) (elOf X) h.flow (by rw [ep]; exact ih)
          omega
  refine list_ext_rowAt (by rw [h.rc.len, k.rc.len]) (fun i hi => ?_)
  rw [h.rc.len] at hi
  refine list_ext_ix (by rw [h.rc.row i hi, k.rc.row i hi]) (fun j hj => ?_)
  rw [h.rc.row i hi] at hj
  exact key (i * T.cols.length + j + 1) i j hi hj (by omega)
open Classical in
/-- the first flow, nothing if there is none -/
noncomputable def firstV (T : Tr) : List (List Int) := if h : ∃ X, FirstFrom T 0 X then h.choose else []
theorem FirstFrom.eq {T : Tr} {X : List (List Int)} (h : FirstFrom T 0 X) : firstV T = X := by
  have he : ∃ X, FirstFrom T 0 X := ⟨X, h⟩
  unfold firstV
  rw [dif_pos he]
  exact he.choose_spec.same h (fun i j _ _ hp => by omega)
theorem first_none {T : Tr} (h : feasB T = false) : firstV T = [] := by
  unfold firstV
  rw [dif_neg]
  rintro ⟨X, hX⟩
  exact feasB_false.1 h ⟨_, hX.flow⟩
/-- the spec's way: the positions before q hold their least values, as both bounds -/
structure Fixed (T T' : Tr) (q : Nat) : Prop where
  rows : T'.rows = T.rows
  cols : T'.cols = T.cols
  ok : TrOk T'
  flow : ∀ Y, Flow (NetT T') Y ↔ Flow (NetT T) Y ∧ Till T.rows.length T.cols.length q Y (elOf T'.lo)
  least : ∀ i j, i < T.rows.length → j < T.cols.length → i * T.cols.length + j < q → LeastAt T (elOf T'.lo) i j
  feas : ∃ Y, Flow (NetT T') Y
theorem Fixed.start {T : Tr} (h : TrOk T) (hf : ∃ Y, Flow (NetT T) Y) : Fixed T T 0 :=
  ⟨rfl, rfl, h, fun Y => ⟨fun hy => ⟨hy, fun i j _ _ hp => by omega⟩, fun hy => hy.1⟩, fun i j _ _ hp => by omega, hf⟩
theorem Fixed.step {T T' : Tr} {i j : Nat} (h : Fixed T T' (i * T.cols.length + j)) (hi : i < T.rows.length) (hj : j < T.cols.length) : Fixed T (withT T' i j (lowV T' i j) (lowV T' i j)) (i * T.cols.length + j + 1) := by
  have hi' : i < T'.rows.length := by rw [h.rows]; exact hi
  have hj' : j < T'.cols.length := by rw [h.cols]; exact hj
  have hl := low_is hi' hj' h.feas
  have hb := low_bound hi' hj' h.feas
  have hce := h.ok.el hi' hj'
  have hfl := flow_withT h.ok hi' hj' (a := lowV T' i j) (b := lowV T' i j) hb.1 (by omega)
  have eL : ∀ p q, elOf (withT T' i j (lowV T' i j) (lowV T' i j)).lo p q = if p = i ∧ q = j then lowV T' i j else elOf T'.lo p q := fun p q => el_setEl h.ok.rcLo hi' hj' _ p q
  have hne : ∀ a b, a < T.rows.length → b < T.cols.length → a * T.cols.length + b < i * T.cols.length + j → ¬ (a = i ∧ b = j) := fun a b _ _ hp e => by rw [e.1, e.2] at hp; omega
  have hpos : ∀ a b, a < T.rows.length → b < T.cols.length → a * T.cols.length + b = i * T.cols.length + j → a = i ∧ b = j := fun a b _ hb' e => by
    have h1 := pos_div (i := a) hb'
    have h2 := pos_div (i := i) hj
    rw [e] at h1
    exact ⟨h1.1.symm.trans h2.1, h1.2.symm.trans h2.2⟩
  have tl : ∀ Y, Till T.rows.length T.cols.length (i * T.cols.length + j) Y (elOf T'.lo) ↔ Till T.rows.length T.cols.length (i * T.cols.length + j) Y (elOf (withT T' i j (lowV T' i j) (lowV T' i j)).lo) := fun Y => by
    constructor
    · intro hy a b ha hb hp; rw [eL, if_neg (hne a b ha hb hp)]; exact hy a b ha hb hp
    · intro hy a b ha hb hp
      have := hy a b ha hb hp
      rwa [eL, if_neg (hne a b ha hb hp)] at this
  refine ⟨h.rows, h.cols, withT_ok h.ok hi' hj' (by omega), fun Y => ?_, fun a b ha hb' hp => ?_, ?_⟩
  · rw [hfl Y, h.flow Y, tl Y]
    constructor
    · rintro ⟨⟨h1, h2⟩, h3, h4⟩
      refine ⟨h1, fun a b ha hb' hp => ?_⟩
      by_cases e : a * T.cols.length + b < i * T.cols.length + j
      · exact h2 a b ha hb' e
      · have e2 := hpos a b ha hb' (by omega)
        rw [eL, if_pos e2, e2.1, e2.2]; omega
    · rintro ⟨h1, h2⟩
      have h3 := h2 i j hi hj (by omega)
      rw [eL, if_pos ⟨rfl, rfl⟩] at h3
      exact ⟨⟨h1, h2.mono (by omega)⟩, by omega, by omega⟩
  · by_cases e : a * T.cols.length + b < i * T.cols.length + j
    · intro Y hY hT
      rw [eL, if_neg (hne a b ha hb' e)]
      refine h.least a b ha hb' e Y hY (fun c d hc hd hp => ?_)
      have := hT c d hc hd hp
      rwa [eL, if_neg (hne c d hc hd (by omega))] at this
    · have e2 := hpos a b ha hb' (by omega)
      rw [e2.1, e2.2]
      intro Y hY hT
      rw [eL, if_pos ⟨rfl, rfl⟩]
      exact hl.2 Y ((h.flow Y).2 ⟨hY, (tl Y).2 hT⟩)
  · obtain ⟨⟨Y, hY, e⟩, _⟩ := hl
    exact ⟨Y, (hfl Y).2 ⟨hY, by omega, by omega⟩⟩
theorem Fixed.done {T T' : Tr} {q : Nat} (h : Fixed T T' q) (hq : T.rows.length * T.cols.length ≤ q) : FirstFrom T 0 T'.lo := by
  have hlt : ∀ i j, i < T.rows.length → j < T.cols.length → i * T.cols.length + j < q := fun i j hi hj => by
    have h1 : (i + 1) * T.cols.length ≤ T.rows.length * T.cols.length := Nat.mul_le_mul_right _ hi
    rw [Nat.add_mul] at h1
    omega
  obtain ⟨Y, hY⟩ := h.feas
  have hy := (h.flow Y).1 hY
  have hrc : Rc T.rows.length T.cols.length T'.lo := by have := h.ok.rcLo; rwa [h.rows, h.cols] at this
  refine ⟨hrc, ?_, fun i j hi hj _ => h.least i j hi hj (hlt i j hi hj)⟩
  have e : ∀ i j, i < T.rows.length → j < T.cols.length → elOf T'.lo i j = Y i j := fun i j hi hj => (hy.2 i j hi hj (hlt i j hi hj)).symm
  refine ⟨fun i j hi hj => by rw [e i j hi hj]; exact hy.1.lo i j hi hj, fun i j hi hj => by rw [e i j hi hj]; exact hy.1.hi i j hi hj, fun i hi => ?_, fun j hj => ?_⟩
  · have h9 := hy.1.row i hi
    rw [← h9]; exact S_congr (fun j hj => e i j hi hj)
  · have h9 := hy.1.col j hj
    rw [← h9]; exact S_congr (fun i hi => e i j hi hj)
noncomputable def ffB (T : Tr) : Bool := trB T && feasB T
open Classical in
noncomputable def ffV (T : Tr) : List (List Int) := if trB T = true then firstV T else []
end Go.Proofs.Ytjpomfdmgaambaa
