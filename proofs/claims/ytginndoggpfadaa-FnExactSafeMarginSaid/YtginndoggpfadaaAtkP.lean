/- The network of an attack, plain: it is valid, and the table is one of its flows. -/
import Derived.Test.YtginndoggpfadaaAtk
import Derived.Test.YtginndoggpfadaaLowP
namespace Go.Proofs.Ytginndoggpfadaa
open Go.RowKit
open Fm

section
variable {x p : List (List Int)}
theorem pub_rc (h : pubB x p = true) : Rc x.length (rowAt x 0).length x := by
  have hm := pub_matOk h
  exact ⟨rfl, hm.row⟩
theorem atk_rl (x p : List (List Int)) : (atkT x p).rows.length = x.length := rowS_length x
theorem atk_cl (x p : List (List Int)) : (atkT x p).cols.length = (rowAt x 0).length := colS_length x _
theorem mapG_rc {n m : Nat} {x : List (List Int)} (h : Rc n m x) (f : Nat → Nat → Int → Int) : Rc n m (mapG f x) := by
  refine ⟨by rw [mapG_length, h.len], fun i hi => ?_⟩
  rw [rowAt_mapG (by rw [h.len]; exact hi), rowF_length, h.row i hi]
theorem el_mapG {n m : Nat} {x : List (List Int)} (h : Rc n m x) (f : Nat → Nat → Int → Int) {i j : Nat} (hi : i < n) (hj : j < m) : elOf (mapG f x) i j = f i j (elOf x i j) := by
  unfold elOf
  rw [rowAt_mapG (by rw [h.len]; exact hi), ix_rowF (by rw [h.row i hi]; exact hj)]
theorem pub_el (h : pubB x p = true) {i j : Nat} (hi : i < x.length) (hj : j < (rowAt x 0).length) : 0 ≤ elOf x i j ∧ elOf x i j ≤ 1000 :=
  gridB_elem (pubB_shape h).1 hi (by rw [(pub_rc h).row i hi]; exact hj)
theorem atk_lo (h : pubB x p = true) {i j : Nat} (hi : i < x.length) (hj : j < (rowAt x 0).length) : elOf (atkT x p).lo i j = if elOf p i j = 1 then 0 else elOf x i j := el_mapG (pub_rc h) (atkLo p) hi hj
theorem atk_hi (h : pubB x p = true) {i j : Nat} (hi : i < x.length) (hj : j < (rowAt x 0).length) : elOf (atkT x p).hi i j = if elOf p i j = 1 then 100000 else elOf x i j := el_mapG (pub_rc h) (atkHi p) hi hj
theorem atk_dims (h : pubB x p = true) : 1 ≤ x.length ∧ x.length ≤ 8 ∧ 1 ≤ (rowAt x 0).length ∧ (rowAt x 0).length ≤ 8 := by
  have sh := pubB_shape h
  have := sh.2.2.2.2 0 (by omega)
  omega
theorem S_le_const {n N : Nat} {f : Nat → Int} {c : Int} (h : ∀ i, i < n → 0 ≤ f i ∧ f i ≤ c) (hn : n ≤ N) (hc : 0 ≤ c) : 0 ≤ S n f ∧ S n f ≤ N * c := by
  refine ⟨S_nonneg (fun i hi => (h i hi).1), ?_⟩
  have h1 : S n f ≤ S n (fun _ => c) := S_le (fun i hi => (h i hi).2)
  have h2 := S_const_le (n := n) (N := N) (c := c) hn hc
  omega
theorem atk_ok (h : pubB x p = true) : TrOk (atkT x p) := by
  have hd := atk_dims h
  have hr := pub_rc h
  refine trOk_of ?_ ?_ ?_ ?_ (fun i j hi hj => ?_)
  · have e : allIn 0 100000 (atkT x p).rows = true := allIn_of (fun i hi => by
      rw [atk_rl] at hi
      show 0 ≤ ix (rowS x) i ∧ ix (rowS x) i ≤ 100000
      rw [ix_rowS hi, hr.rowsum hi]
      have := S_le_const (n := (rowAt x 0).length) (N := 8) (f := elOf x i) (c := 1000) (fun j hj => pub_el h hi hj) (by omega) (by omega)
      omega)
    unfold sumsB
    rw [e, atk_rl]; simp; omega
  · have e : allIn 0 100000 (atkT x p).cols = true := allIn_of (fun j hj => by
      rw [atk_cl] at hj
      show 0 ≤ ix (colS x _) j ∧ ix (colS x _) j ≤ 100000
      rw [ix_colS hj, hr.colsum j]
      have := S_le_const (n := x.length) (N := 8) (f := fun i => elOf x i j) (c := 1000) (fun i hi => pub_el h hi hj) (by omega) (by omega)
      omega)
    unfold sumsB
    rw [e, atk_cl]; simp; omega
  · rw [atk_rl, atk_cl]; exact mapG_rc hr _
  · rw [atk_rl, atk_cl]; exact mapG_rc hr _
  · rw [atk_rl] at hi
    rw [atk_cl] at hj
    have := pub_el h hi hj
    rw [atk_lo h hi hj, atk_hi h hi hj]
    split <;> omega
theorem atk_flow (h : pubB x p = true) : Flow (NetT (atkT x p)) (elOf x) := by
  have hr := pub_rc h
  have en : (NetT (atkT x p)).n = x.length := atk_rl x p
  have em : (NetT (atkT x p)).m = (rowAt x 0).length := atk_cl x p
  refine ⟨fun i j hi hj => ?_, fun i j hi hj => ?_, fun i hi => ?_, fun j hj => ?_⟩
  · rw [en] at hi
    rw [em] at hj
    have := pub_el h hi hj
    show elOf (atkT x p).lo i j ≤ _
    rw [atk_lo h hi hj]
    split <;> omega
  · rw [en] at hi
    rw [em] at hj
    have := pub_el h hi hj
    show _ ≤ elOf (atkT x p).hi i j
    rw [atk_hi h hi hj]
    split <;> omega
  · rw [en] at hi
    rw [em]
    show _ = ix (rowS x) i
    rw [ix_rowS hi, hr.rowsum hi]
  · rw [em] at hj
    rw [en]
    show _ = ix (colS x _) j
    rw [ix_colS hj, hr.colsum j]
theorem atk_feas (h : pubB x p = true) : feasB (atkT x p) = true := feasB_of ⟨_, atk_flow h⟩
/-- the least and the greatest value of a cell in all tables that agree with what is published -/
noncomputable def qLo (x p : List (List Int)) (i j : Nat) : Int := lowV (atkT x p) i j
noncomputable def qHi (x p : List (List Int)) (i j : Nat) : Int := highV (atkT x p) i j
theorem q_bound (h : pubB x p = true) {i j : Nat} (hi : i < x.length) (hj : j < (rowAt x 0).length) : 0 ≤ qLo x p i j ∧ qLo x p i j ≤ elOf x i j ∧ elOf x i j ≤ qHi x p i j ∧ qHi x p i j ≤ 100000 := by
  have hi' : i < (atkT x p).rows.length := by rw [atk_rl]; exact hi
  have hj' : j < (atkT x p).cols.length := by rw [atk_cl]; exact hj
  have hf : ∃ y, Flow (NetT (atkT x p)) y := ⟨_, atk_flow h⟩
  have h1 := (low_is hi' hj' hf).2 _ (atk_flow h)
  have h2 := (high_is hi' hj' hf).2 _ (atk_flow h)
  have h3 := low_bound hi' hj' hf
  have h4 := (atk_ok h).el hi' hj'
  unfold qLo qHi
  omega
/-- a cell that is published has but its own value -/
theorem q_shown (h : pubB x p = true) {i j : Nat} (hi : i < x.length) (hj : j < (rowAt x 0).length) (hp : elOf p i j ≠ 1) : qLo x p i j = elOf x i j ∧ qHi x p i j = elOf x i j := by
  have hi' : i < (atkT x p).rows.length := by rw [atk_rl]; exact hi
  have hj' : j < (atkT x p).cols.length := by rw [atk_cl]; exact hj
  have hf : ∃ y, Flow (NetT (atkT x p)) y := ⟨_, atk_flow h⟩
  have h3 := low_bound hi' hj' hf
  rw [atk_lo h hi hj, atk_hi h hi hj, if_neg hp, if_neg hp] at h3
  unfold qLo qHi
  omega
/-- whether a flow keeps below a goal, or gets up to one -/
theorem feas_low {T : Tr} (ho : TrOk T) {i j : Nat} (hi : i < T.rows.length) (hj : j < T.cols.length) (hf : ∃ x, Flow (NetT T) x) {g : Int} (hg : g ≤ elOf T.hi i j) : feasB (withT T i j (elOf T.lo i j) g) = decide (lowV T i j ≤ g) := by
  have hl := low_is hi hj hf
  by_cases h : lowV T i j ≤ g
  · obtain ⟨⟨x, hx, e⟩, _⟩ := hl
    have h0 : elOf T.lo i j ≤ x i j := hx.lo i j hi hj
    rw [feasB_of ⟨x, (flow_withT ho hi hj (Int.le_refl _) hg x).2 ⟨hx, h0, by omega⟩⟩]
    simp [h]
  · rw [feasB_not (by
      rintro ⟨x, hx⟩
      have h9 := (flow_withT ho hi hj (Int.le_refl _) hg x).1 hx
      have := hl.2 x h9.1
      omega)]
    simp [h]
theorem feas_high {T : Tr} (ho : TrOk T) {i j : Nat} (hi : i < T.rows.length) (hj : j < T.cols.length) (hf : ∃ x, Flow (NetT T) x) {g : Int} (hg : elOf T.lo i j ≤ g) : feasB (withT T i j g (elOf T.hi i j)) = decide (g ≤ highV T i j) := by
  have hl := high_is hi hj hf
  by_cases h : g ≤ highV T i j
  · obtain ⟨⟨x, hx, e⟩, _⟩ := hl
    have h0 : x i j ≤ elOf T.hi i j := hx.hi i j hi hj
    rw [feasB_of ⟨x, (flow_withT ho hi hj hg (Int.le_refl _) x).2 ⟨hx, by omega, h0⟩⟩]
    simp [h]
  · rw [feasB_not (by
      rintro ⟨x, hx⟩
      have h9 := (flow_withT ho hi hj hg (Int.le_refl _) x).1 hx
      have := hl.2 x h9.1
      omega)]
    simp [h]
end
theorem prot_low {x p : List (List Int)} (h : pubB x p = true) {i j : Nat} (hi : i < x.length) (hj : j < (rowAt x 0).length) (hp : elOf p i j = 1) {g : Int} (hg : g ≤ 100000) : feasB (withT (atkT x p) i j 0 g) = decide (qLo x p i j ≤ g) := by
  have h1 := feas_low (atk_ok h) (i := i) (j := j) (by rw [atk_rl]; exact hi) (by rw [atk_cl]; exact hj) ⟨_, atk_flow h⟩ (g := g) (by rw [atk_hi h hi hj, if_pos hp]; exact hg)
  rw [atk_lo h hi hj, if_pos hp] at h1
  exact h1
theorem prot_high {x p : List (List Int)} (h : pubB x p = true) {i j : Nat} (hi : i < x.length) (hj : j < (rowAt x 0).length) (hp : elOf p i j = 1) {g : Int} (hg : 0 ≤ g) : feasB (withT (atkT x p) i j g 100000) = decide (g ≤ qHi x p i j) := by
  have h1 := feas_high (atk_ok h) (i := i) (j := j) (by rw [atk_rl]; exact hi) (by rw [atk_cl]; exact hj) ⟨_, atk_flow h⟩ (g := g) (by rw [atk_lo h hi hj, if_pos hp]; exact hg)
  rw [atk_hi h hi hj, if_pos hp] at h1
  exact h1
theorem prot_ok {x p : List (List Int)} (h : pubB x p = true) {i j : Nat} (hi : i < x.length) (hj : j < (rowAt x 0).length) {a b : Int} (hab : 0 ≤ a ∧ a ≤ b ∧ b ≤ 100000) : TrOk (withT (atkT x p) i j a b) :=
  withT_ok (atk_ok h) (by rw [atk_rl]; exact hi) (by rw [atk_cl]; exact hj) hab
end Go.Proofs.Ytginndoggpfadaa
