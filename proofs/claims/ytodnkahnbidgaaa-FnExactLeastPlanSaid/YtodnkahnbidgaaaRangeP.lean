/- An element as small and as great as it can be, by sending round it: plain, no program in sight. -/
import Derived.Test.YtodnkahnbidgaaaFillW0
namespace Go.Proofs.Ytodnkahnbidgaaa
namespace Fm

theorem Pushed.congr {N : Nat} {r r1 r' r2 : Nat → Nat → Int} {s t : Nat} {lim sent : Int} (h : Pushed N r s t lim sent r') (hs : s < N) (e1 : ∀ u v, u < N → v < N → r1 u v = r u v) (e2 : ∀ u v, u < N → v < N → r2 u v = r' u v) : Pushed N r1 s t lim sent r2 := by
  refine ⟨fun u v hu hv => by rw [e2 u v hu hv]; exact h.nonneg u v hu hv, fun u v hu hv => by rw [e2 u v hu hv, e2 v u hv hu, e1 u v hu hv, e1 v u hv hu]; exact h.pair u v hu hv,
    fun u hu h1 h2 => by rw [S_congr (fun v hv => e2 u v hu hv), S_congr (fun v hv => e1 u v hu hv)]; exact h.node u hu h1 h2,
    by rw [S_congr (fun v hv => e2 s v hs hv), S_congr (fun v hv => e1 s v hs hv)]; exact h.src, h.pos, h.le, ?_⟩
  rcases h.done with hd | ⟨A, h1, h2, h3⟩
  · exact .inl hd
  · exact .inr ⟨A, h1, h2, fun u v hu hv a b => by rw [e2 u v hu hv]; exact h3 u v hu hv a b⟩
/-- what the sink takes in -/
theorem Pushed.snk {N : Nat} {r r' : Nat → Nat → Int} {s t : Nat} {lim sent : Int} (h : Pushed N r s t lim sent r') (hs : s < N) (ht : t < N) (hst : s ≠ t) : S N (r' t) - S N (r t) = sent := by
  have h1 : S N (fun u => S N (fun v => r' u v + r' v u)) = S N (fun u => S N (fun v => r u v + r v u)) := S2_congr (fun u v hu hv => h.pair u v hu hv)
  rw [S2_add, S2_add] at h1
  have e1 : S N (fun i => S N (fun v => r' v i)) = S N (fun i => S N (r' i)) := (S_swap N N (fun i j => r' i j)).symm
  have e2 : S N (fun i => S N (fun v => r v i)) = S N (fun i => S N (r i)) := (S_swap N N (fun i j => r i j)).symm
  have e1' : S N (fun i => S N (fun (v : Nat) => r' v i)) = S N (fun i => S N (r' i)) := e1
  have h2 : S N (fun i => S N (r' i)) = S N (fun i => S N (r i)) := by
    have a1 : S N (fun i => S N ((fun u v => r' v u) i)) = S N (fun i => S N (r' i)) := e1
    have a2 : S N (fun i => S N ((fun u v => r v u) i)) = S N (fun i => S N (r i)) := e2
    rw [show (S N fun i => S N ((fun u v => r' u v) i)) = S N (fun i => S N (r' i)) from rfl, show (S N fun i => S N ((fun u v => r u v) i)) = S N (fun i => S N (r i)) from rfl] at h1
    omega
  have h3 : S N (fun i => S N (r' i) - S N (r i)) = 0 := by rw [S_sub]; omega
  have h4 : S N (fun i => S N (r' i) - S N (r i)) = S N (fun i => (if i = s then - sent else 0) + (if i = t then S N (r' t) - S N (r t) else 0)) := S_congr (fun i hi => by
    by_cases e : i = s
    · subst e
      rw [if_pos rfl, if_neg hst]; have := h.src; omega
    · rw [if_neg e]
      by_cases e2 : i = t
      · subst e2; rw [if_pos rfl]; omega
      · rw [if_neg e2, h.node i hi e e2]; omega)
  rw [h4, S_add, S_single hs, S_single ht] at h3
  omega

section
variable (n : Nat) (lo hi x : Nat → Nat → Int) (P : Nat → Nat → Bool) {i j k l : Nat}
theorem rd_rc (hi' : i < n) : resD n lo hi x P i (n + j) = if P i j = true then hi i j - x i j else 0 := by
  unfold resD; rw [if_pos hi', if_pos (by omega), Nat.add_sub_cancel_left]
theorem rd_cr (hi' : i < n) : resD n lo hi x P (n + j) i = if P i j = true then x i j - lo i j else 0 := by
  unfold resD; rw [if_neg (by omega), if_pos hi', Nat.add_sub_cancel_left]
theorem rd_rr (hi' : i < n) (hk : k < n) : resD n lo hi x P i k = 0 := by
  unfold resD; rw [if_pos hi', if_neg (by omega)]
theorem rd_cc : resD n lo hi x P (n + j) (n + l) = 0 := by
  unfold resD; rw [if_neg (by omega), if_neg (by omega)]
end

/-- a network in which all that Q does not free stays as in x -/
def Net.fix (t : Net) (x : Nat → Nat → Int) (Q : Nat → Nat → Bool) : Net := ⟨t.n, t.m, t.R, t.C, fun i j => if Q i j = true then t.Lo i j else x i j, fun i j => if Q i j = true then t.Hi i j else x i j⟩
theorem Flow.toFix {t : Net} {x y : Nat → Nat → Int} {Q : Nat → Nat → Bool} (hy : Flow t y) (h : ∀ i j, i < t.n → j < t.m → Q i j = false → y i j = x i j) : Flow (t.fix x Q) y := by
  refine ⟨fun i j hi hj => ?_, fun i j hi hj => ?_, hy.row, hy.col⟩
  · show (if Q i j = true then t.Lo i j else x i j) ≤ y i j
    cases hq : Q i j
    · rw [h i j hi hj hq]; simp
    · simp; exact hy.lo i j hi hj
  · show y i j ≤ (if Q i j = true then t.Hi i j else x i j)
    cases hq : Q i j
    · rw [h i j hi hj hq]; simp
    · simp; exact hy.hi i j hi hj

/-- what comes of x when d has been sent round (a, b) over what P frees -/
def sentY (t : Net) (x r' : Nat → Nat → Int) (P : Nat → Nat → Bool) (a b : Nat) (d : Int) (i j : Nat) : Int :=
  if P i j = true then t.Hi i j - r' i (t.n + j) else if i = a ∧ j = b then x i j + d else x i j
theorem sentY_at {t : Net} {x r' : Nat → Nat → Int} {P : Nat → Nat → Bool} {a b : Nat} {d : Int} (hP : P a b = false) : sentY t x r' P a b d a b = x a b + d := by simp [sentY, hP]
theorem sentY_off {t : Net} {x r' : Nat → Nat → Int} {P : Nat → Nat → Bool} {a b : Nat} {d : Int} {i j : Nat} (hP : P i j = false) (hne : ¬ (i = a ∧ j = b)) : sentY t x r' P a b d i j = x i j := by
  unfold sentY; rw [if_neg (by rw [hP]; simp), if_neg hne]

section
variable {t : Net} {x r' : Nat → Nat → Int} {P : Nat → Nat → Bool} {a b s e : Nat} {lim sent : Int}
theorem sent_zero (h : Pushed (t.n + t.m) (resD t.n t.Lo t.Hi x P) s e lim sent r') {u v : Nat} (hu : u < t.n + t.m) (hv : v < t.n + t.m) (h0 : resD t.n t.Lo t.Hi x P u v + resD t.n t.Lo t.Hi x P v u = 0) : r' u v = 0 := by
  have h1 := h.nonneg u v hu hv
  have h2 := h.nonneg v u hv hu
  have h3 := h.pair u v hu hv
  omega
theorem sent_row (h : Pushed (t.n + t.m) (resD t.n t.Lo t.Hi x P) s e lim sent r') {i : Nat} (hi : i < t.n) : S (t.n + t.m) (r' i) - S (t.n + t.m) (resD t.n t.Lo t.Hi x P i) = S t.m (fun j => r' i (t.n + j) - resD t.n t.Lo t.Hi x P i (t.n + j)) := by
  rw [S_append, S_append, S_sub]
  rw [S_congr (g := fun _ => 0) (fun k (hk : k < t.n) => sent_zero h (u := i) (v := k) (by omega) (by omega) (by rw [rd_rr _ _ _ _ _ hi hk, rd_rr _ _ _ _ _ hk hi]; rfl)), S_zero]
  rw [S_congr (n := t.n) (f := resD t.n t.Lo t.Hi x P i) (g := fun _ => 0) (fun k (hk : k < t.n) => rd_rr _ _ _ _ _ hi hk), S_zero]
  omega
theorem sent_col (h : Pushed (t.n + t.m) (resD t.n t.Lo t.Hi x P) s e lim sent r') {j : Nat} (hj : j < t.m) : S (t.n + t.m) (r' (t.n + j)) - S (t.n + t.m) (resD t.n t.Lo t.Hi x P (t.n + j)) = S t.n (fun i => resD t.n t.Lo t.Hi x P i (t.n + j) - r' i (t.n + j)) := by
  rw [S_append, S_append]
  rw [S_congr (g := fun _ => 0) (fun k (hk : k < t.m) => sent_zero h (u := t.n + j) (v := t.n + k) (by omega) (by omega) (by rw [rd_cc, rd_cc]; rfl)), S_zero]
  rw [S_congr (n := t.m) (f := fun k => resD t.n t.Lo t.Hi x P (t.n + j) (t.n + k)) (g := fun _ => 0) (fun k _ => rd_cc _ _ _ _ _), S_zero]
  rw [Int.add_zero, Int.add_zero, ← S_sub]
  exact S_congr (fun i hi => by have := h.pair (t.n + j) i (by omega) (by omega); omega)
theorem sentY_diff (h : Pushed (t.n + t.m) (resD t.n t.Lo t.Hi x P) s e lim sent r') (hP : P a b = false) (d : Int) {i j : Nat} (hi : i < t.n) (hj : j < t.m) :
    sentY t x r' P a b d i j - x i j = (resD t.n t.Lo t.Hi x P i (t.n + j) - r' i (t.n + j)) + (if i = a ∧ j = b then d else 0) := by
  unfold sentY
  rw [rd_rc _ _ _ _ _ hi]
  cases hp : P i j
  · have hz : r' i (t.n + j) = 0 := sent_zero h (by omega) (by omega) (by rw [rd_rc _ _ _ _ _ hi, rd_cr _ _ _ _ _ hi, hp]; simp)
    rw [hz]
    by_cases e : i = a ∧ j = b
    · simp [e]; omega
    · simp [e]
  · have hne : ¬ (i = a ∧ j = b) := by rintro ⟨rfl, rfl⟩; rw [hP] at hp; cases hp
    simp [hne]; omega
theorem sentY_free (h : Pushed (t.n + t.m) (resD t.n t.Lo t.Hi x P) s e lim sent r') {i j : Nat} (hi : i < t.n) (hj : j < t.m) (hp : P i j = true) (d : Int) :
    sentY t x r' P a b d i j = t.Hi i j - r' i (t.n + j) ∧ 0 ≤ r' i (t.n + j) ∧ 0 ≤ r' (t.n + j) i ∧ r' i (t.n + j) + r' (t.n + j) i = t.Hi i j - t.Lo i j := by
  refine ⟨by unfold sentY; rw [if_pos hp], h.nonneg _ _ (by omega) (by omega), h.nonneg _ _ (by omega) (by omega), ?_⟩
  rw [h.pair _ _ (by omega) (by omega), rd_rc _ _ _ _ _ hi, rd_cr _ _ _ _ _ hi, hp]; simp; omega
/-- the matrix is a flow, where (a, b) keeps within its bounds and the sums of row a and column b are kept -/
theorem sentY_flow (hx : Flow t x) (ha : a < t.n) (hb : b < t.m) (h : Pushed (t.n + t.m) (resD t.n t.Lo t.Hi x P) s e lim sent r') (hP : P a b = false) (d : Int) (hd : t.Lo a b ≤ x a b + d ∧ x a b + d ≤ t.Hi a b)
    (hrow : ∀ i, i < t.n → S (t.n + t.m) (r' i) - S (t.n + t.m) (resD t.n t.Lo t.Hi x P i) = if i = a then d else 0)
    (hcol : ∀ j, j < t.m → S (t.n + t.m) (r' (t.n + j)) - S (t.n + t.m) (resD t.n t.Lo t.Hi x P (t.n + j)) = if j = b then - d else 0) : Flow t (sentY t x r' P a b d) := by
  have bd : ∀ i j, i < t.n → j < t.m → t.Lo i j ≤ sentY t x r' P a b d i j ∧ sentY t x r' P a b d i j ≤ t.Hi i j := fun i j hi hj => by
    cases hp : P i j
    · by_cases e : i = a ∧ j = b
      · obtain ⟨rfl, rfl⟩ := e
        rw [sentY_at hp]; exact hd
      · rw [sentY_off hp e]; exact ⟨hx.lo i j hi hj, hx.hi i j hi hj⟩
    · have := sentY_free (a := a) (b := b) h hi hj hp d; omega
  refine ⟨fun i j hi hj => (bd i j hi hj).1, fun i j hi hj => (bd i j hi hj).2, fun i hi => ?_, fun j hj => ?_⟩
  · have h1 : S t.m (fun j => sentY t x r' P a b d i j - x i j) = 0 := by
      rw [S_congr (fun j hj => sentY_diff h hP d hi hj), S_add]
      have h2 := hrow i hi
      rw [sent_row h hi] at h2
      have h3 : S t.m (fun j => resD t.n t.Lo t.Hi x P i (t.n + j) - r' i (t.n + j)) = - S t.m (fun j => r' i (t.n + j) - resD t.n t.Lo t.Hi x P i (t.n + j)) := by
        rw [← S_neg]; exact S_congr (fun j _ => by omega)
      have h4 : S t.m (fun j => if i = a ∧ j = b then d else 0) = if i = a then d else 0 := by
        by_cases e : i = a
        · rw [if_pos e]; exact (S_congr (fun j _ => by simp [e])).trans (S_single hb d)
        · rw [if_neg e]; exact (S_congr (fun j _ => by simp [e])).trans (S_zero t.m)
      rw [h3, h4, h2]; split <;> omega
    rw [S_sub] at h1
    have := hx.row i hi
    have e1 : S t.m (fun j => sentY t x r' P a b d i j) = S t.m (sentY t x r' P a b d i) := rfl
    have e2 : S t.m (fun j => x i j) = S t.m (x i) := rfl
    rw [e1, e2] at h1; omega
  · have h1 : S t.n (fun i => sentY t x r' P a b d i j - x i j) = 0 := by
      rw [S_congr (fun i hi => sentY_diff h hP d hi hj), S_add]
      have h2 := hcol j hj
      rw [sent_col h hj] at h2
      have h4 : S t.n (fun i => if i = a ∧ j = b then d else 0) = if j = b then d else 0 := by
        by_cases e : j = b
        · rw [if_pos e]; exact (S_congr (fun i _ => by simp [e])).trans (S_single ha d)
        · rw [if_neg e]; exact (S_congr (fun i _ => by simp [e])).trans (S_zero t.n)
      rw [h4, h2]
      split <;> omega
    rw [S_sub] at h1
    have := hx.col j hj
    omega
/-- those flows that agree with x wherever P frees nothing, (a, b) apart -/
def Agree (t : Net) (x z : Nat → Nat → Int) (P : Nat → Nat → Bool) (a b : Nat) : Prop := ∀ i j, i < t.n → j < t.m → P i j = false → ¬ (i = a ∧ j = b) → z i j = x i j
theorem sentY_agree (d : Int) : Agree t x (sentY t x r' P a b d) P a b := fun _ _ _ _ hp hne => sentY_off hp hne
def orAt (P : Nat → Nat → Bool) (a b i j : Nat) : Bool := P i j || (decide (i = a) && decide (j = b))
theorem Agree.fix {z : Nat → Nat → Int} (h : Agree t x z P a b) (hz : Flow t z) : Flow (t.fix x (orAt P a b)) z := hz.toFix (fun i j hi hj hq => by
  simp only [orAt, Bool.or_eq_false_iff, Bool.and_eq_false_iff, decide_eq_false_iff_not] at hq
  exact h i j hi hj hq.1 (fun e => by rcases hq.2 with h | h; exact h e.1; exact h e.2))
theorem fix_edge (h : Pushed (t.n + t.m) (resD t.n t.Lo t.Hi x P) s e lim sent r') (d : Int) {i j : Nat} (hi : i < t.n) (hj : j < t.m) (hne : ¬ (i = a ∧ j = b)) :
    (r' i (t.n + j) = 0 → sentY t x r' P a b d i j = (t.fix x (orAt P a b)).Hi i j) ∧ (r' (t.n + j) i = 0 → sentY t x r' P a b d i j = (t.fix x (orAt P a b)).Lo i j) := by
  cases hp : P i j
  · have hq : orAt P a b i j = false := by
      simp only [orAt, hp, Bool.false_or, Bool.and_eq_false_iff, decide_eq_false_iff_not]
      by_cases e : i = a
      · exact .inr (fun e2 => hne ⟨e, e2⟩)
      · exact .inl e
    refine ⟨fun _ => ?_, fun _ => ?_⟩
    · rw [sentY_off hp hne]; show x i j = if orAt P a b i j = true then _ else x i j; rw [hq]; simp
    · rw [sentY_off hp hne]; show x i j = if orAt P a b i j = true then _ else x i j; rw [hq]; simp
  · have hq : orAt P a b i j = true := by simp [orAt, hp]
    have hf := sentY_free (a := a) (b := b) h hi hj hp d
    refine ⟨fun h0 => ?_, fun h0 => ?_⟩
    · show _ = if orAt P a b i j = true then t.Hi i j else x i j
      rw [if_pos hq, hf.1]; omega
    · show _ = if orAt P a b i j = true then t.Lo i j else x i j
      rw [if_pos hq, hf.1]; omega

/-- down: what is sent from row a to column b takes the place of as much at (a, b) -/
theorem sendDown (hx : Flow t x) (ha : a < t.n) (hb : b < t.m) (hP : P a b = false) (hl : 0 ≤ lim ∧ lim ≤ x a b - t.Lo a b) (h : Pushed (t.n + t.m) (resD t.n t.Lo t.Hi x P) a (t.n + b) lim sent r') :
    Flow t (sentY t x r' P a b (- sent)) ∧ (lim ≤ sent ∨ ∀ z, Flow t z → Agree t x z P a b → sentY t x r' P a b (- sent) a b ≤ z a b) := by
  have hs := h.snk (by omega) (by omega) (by omega)
  have hle := h.le hl.1
  have hps := h.pos
  have hhi := hx.hi a b ha hb
  have hf := sentY_flow hx ha hb h hP (- sent) (by omega) (fun i hi => by
    by_cases e : i = a
    · subst e; rw [if_pos rfl]; have := h.src; omega
    · rw [if_neg e, h.node i (by omega) e (by omega)]; omega) (fun j hj => by
    by_cases e : j = b
    · subst e; rw [if_pos rfl]; omega
    · rw [if_neg e, h.node (t.n + j) (by omega) (by omega) (by omega)]; omega)
  refine ⟨hf, ?_⟩
  rcases h.done with hd | ⟨A, h1, h2, h3⟩
  · exact .inl hd
  · refine .inr (fun z hz hzA => ?_)
    refine Flow.least (t := t.fix x (orAt P a b)) ((sentY_agree (- sent)).fix hf) (hzA.fix hz) ha hb A (fun j => A (t.n + j)) h1 h2 (fun i j hi hj e1 e2 hne => ?_) (fun i j hi hj e1 e2 => ?_)
    · have hi' : i < t.n := hi
      have hj' : j < t.m := hj
      exact (fix_edge h _ hi' hj' hne).1 (h3 i (t.n + j) (by omega) (by omega) e1 e2)
    · have hi' : i < t.n := hi
      have hj' : j < t.m := hj
      exact (fix_edge h _ hi' hj' (fun e => by rw [e.1, h1] at e1; cases e1)).2 (h3 (t.n + j) i (by omega) (by omega) e2 e1)
/-- up: what is sent from column b to row a comes on top of (a, b) -/
theorem sendUp (hx : Flow t x) (ha : a < t.n) (hb : b < t.m) (hP : P a b = false) (hl : 0 ≤ lim ∧ lim ≤ t.Hi a b - x a b) (h : Pushed (t.n + t.m) (resD t.n t.Lo t.Hi x P) (t.n + b) a lim sent r') :
    Flow t (sentY t x r' P a b sent) ∧ (lim ≤ sent ∨ ∀ z, Flow t z → Agree t x z P a b → z a b ≤ sentY t x r' P a b sent a b) := by
  have hs := h.snk (by omega) (by omega) (by omega)
  have hle := h.le hl.1
  have hps := h.pos
  have hlo := hx.lo a b ha hb
  have hf := sentY_flow hx ha hb h hP sent (by omega) (fun i hi => by
    by_cases e : i = a
    · subst e; rw [if_pos rfl]; omega
    · rw [if_neg e, h.node i (by omega) (by omega) e]; omega) (fun j hj => by
    by_cases e : j = b
    · subst e; rw [if_pos rfl]; have := h.src; omega
    · rw [if_neg e, h.node (t.n + j) (by omega) (by omega) (by omega)]; omega)
  refine ⟨hf, ?_⟩
  rcases h.done with hd | ⟨A, h1, h2, h3⟩
  · exact .inl hd
  · refine .inr (fun z hz hzA => ?_)
    refine Flow.greatest (t := t.fix x (orAt P a b)) ((sentY_agree sent).fix hf) (hzA.fix hz) ha hb A (fun j => A (t.n + j)) h2 h1 (fun i j hi hj e1 e2 => ?_) (fun i j hi hj e1 e2 hne => ?_)
    · have hi' : i < t.n := hi
      have hj' : j < t.m := hj
      exact (fix_edge h _ hi' hj' (fun e => by rw [e.1, h2] at e1; cases e1)).1 (h3 i (t.n + j) (by omega) (by omega) e1 e2)
    · have hi' : i < t.n := hi
      have hj' : j < t.m := hj
      exact (fix_edge h _ hi' hj' hne).2 (h3 (t.n + j) i (by omega) (by omega) e2 e1)
end
end Fm
end Go.Proofs.Ytodnkahnbidgaaa
