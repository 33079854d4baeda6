/- Sums, networks of rows and columns, cuts, and sending along chains: plain arithmetic, no program in sight. -/
namespace Go.Proofs.Ytodnkahnbidgaaa
namespace Fm

/-- f 0 + .. + f (n - 1) -/
def S : Nat → (Nat → Int) → Int
  | 0, _ => 0
  | n + 1, f => S n f + f n

theorem S_congr {n : Nat} {f g : Nat → Int} (h : ∀ i, i < n → f i = g i) : S n f = S n g := by
  induction n with
  | zero => rfl
  | succ n ih => simp only [S]; rw [ih (fun i hi => h i (by omega)), h n (by omega)]
theorem S_zero (n : Nat) : S n (fun _ => 0) = 0 := by
  induction n with
  | zero => rfl
  | succ n ih => simp only [S]; omega
theorem S_add (n : Nat) (f g : Nat → Int) : S n (fun i => f i + g i) = S n f + S n g := by
  induction n with
  | zero => rfl
  | succ n ih => simp only [S]; omega
theorem S_sub (n : Nat) (f g : Nat → Int) : S n (fun i => f i - g i) = S n f - S n g := by
  induction n with
  | zero => rfl
  | succ n ih => simp only [S]; omega
theorem S_neg (n : Nat) (f : Nat → Int) : S n (fun i => - f i) = - S n f := by
  induction n with
  | zero => rfl
  | succ n ih => simp only [S]; omega
theorem S_le {n : Nat} {f g : Nat → Int} (h : ∀ i, i < n → f i ≤ g i) : S n f ≤ S n g := by
  induction n with
  | zero => exact Int.le_refl _
  | succ n ih =>
    have h1 := ih (fun i hi => h i (by omega))
    have h2 := h n (by omega)
    simp only [S]; omega
theorem S_nonneg {n : Nat} {f : Nat → Int} (h : ∀ i, i < n → 0 ≤ f i) : 0 ≤ S n f := by
  have := S_le h; rw [S_zero] at this; exact this
theorem S_nonpos {n : Nat} {f : Nat → Int} (h : ∀ i, i < n → f i ≤ 0) : S n f ≤ 0 := by
  have := S_le h; rw [S_zero] at this; exact this
theorem S_swap (n m : Nat) (f : Nat → Nat → Int) : S n (fun i => S m (fun j => f i j)) = S m (fun j => S n (fun i => f i j)) := by
  induction n with
  | zero => simp only [S]; rw [S_zero]
  | succ n ih => simp only [S]; rw [ih, S_add]
theorem S_single {n k : Nat} (h : k < n) (c : Int) : S n (fun i => if i = k then c else 0) = c := by
  induction n with
  | zero => omega
  | succ n ih =>
    simp only [S]
    by_cases e : k = n
    · subst e
      rw [S_congr (g := fun _ => 0) (fun i hi => by rw [if_neg (by omega)]), S_zero]
      simp
    · rw [ih (by omega), if_neg (by omega)]; omega
theorem S_eq_zero {n : Nat} {f : Nat → Int} (h : ∀ i, i < n → 0 ≤ f i) (h0 : S n f = 0) : ∀ i, i < n → f i = 0 := by
  induction n with
  | zero => intro i hi; omega
  | succ n ih =>
    simp only [S] at h0
    have h1 := S_nonneg (fun i (hi : i < n) => h i (by omega))
    have h2 := h n (by omega)
    intro i hi
    by_cases e : i = n
    · subst e; omega
    · exact ih (fun i hi => h i (by omega)) (by omega) i (by omega)
theorem S_append (n m : Nat) (f : Nat → Int) : S (n + m) f = S n f + S m (fun j => f (n + j)) := by
  induction m with
  | zero => simp [S]
  | succ m ih => rw [← Nat.add_assoc]; simp only [S]; rw [ih]; omega
theorem S_pos {n : Nat} {f : Nat → Int} (h : 0 < S n f) : ∃ i, i < n ∧ 0 < f i := by
  apply Classical.byContradiction
  intro hn
  have := S_nonpos (n := n) (f := f) (fun i hi => by
    apply Classical.byContradiction
    intro hh; exact hn ⟨i, hi, by omega⟩)
  omega
theorem S_pull {n k : Nat} (h : k < n) (f : Nat → Int) : S n f = f k + S n (fun i => if i = k then 0 else f i) := by
  have : S n f = S n (fun i => (if i = k then f k else 0) + (if i = k then 0 else f i)) := S_congr (fun i _ => by
    by_cases e : i = k
    · subst e; simp
    · simp [e])
  rw [this, S_add, S_single h]

/-! ### Networks: rows, columns, bounds -/
structure Net where
  n : Nat
  m : Nat
  R : Nat → Int
  C : Nat → Int
  Lo : Nat → Nat → Int
  Hi : Nat → Nat → Int

def Net.total (t : Net) (x : Nat → Nat → Int) : Int := S t.n (fun i => S t.m (x i))

/-- within the bounds, the sums at most those of the network -/
structure Fits (t : Net) (x : Nat → Nat → Int) : Prop where
  lo : ∀ i j, i < t.n → j < t.m → t.Lo i j ≤ x i j
  hi : ∀ i j, i < t.n → j < t.m → x i j ≤ t.Hi i j
  row : ∀ i, i < t.n → S t.m (x i) ≤ t.R i
  col : ∀ j, j < t.m → S t.n (fun i => x i j) ≤ t.C j
structure Flow (t : Net) (x : Nat → Nat → Int) : Prop where
  lo : ∀ i j, i < t.n → j < t.m → t.Lo i j ≤ x i j
  hi : ∀ i j, i < t.n → j < t.m → x i j ≤ t.Hi i j
  row : ∀ i, i < t.n → S t.m (x i) = t.R i
  col : ∀ j, j < t.m → S t.n (fun i => x i j) = t.C j
theorem Flow.fits {t : Net} {x : Nat → Nat → Int} (h : Flow t x) : Fits t x :=
  ⟨h.lo, h.hi, fun i hi => Int.le_of_eq (h.row i hi), fun j hj => Int.le_of_eq (h.col j hj)⟩
/-- rows A and columns B show that no such matrix has a greater sum -/
structure Cert (t : Net) (x : Nat → Nat → Int) (A B : Nat → Bool) : Prop where
  fits : Fits t x
  rowT : ∀ i, i < t.n → A i = false → S t.m (x i) = t.R i
  colT : ∀ j, j < t.m → B j = true → S t.n (fun i => x i j) = t.C j
  up : ∀ i j, i < t.n → j < t.m → A i = true → B j = false → x i j = t.Hi i j
  dn : ∀ i j, i < t.n → j < t.m → A i = false → B j = true → x i j = t.Lo i j

theorem S2_add (n m : Nat) (f g : Nat → Nat → Int) : S n (fun i => S m (fun j => f i j + g i j)) = S n (fun i => S m (f i)) + S n (fun i => S m (g i)) := by
  rw [← S_add]; exact S_congr (fun i _ => S_add m (f i) (g i))
theorem S2_sub (n m : Nat) (f g : Nat → Nat → Int) : S n (fun i => S m (fun j => f i j - g i j)) = S n (fun i => S m (f i)) - S n (fun i => S m (g i)) := by
  rw [← S_sub]; exact S_congr (fun i _ => S_sub m (f i) (g i))
theorem S2_congr {n m : Nat} {f g : Nat → Nat → Int} (h : ∀ i j, i < n → j < m → f i j = g i j) : S n (fun i => S m (f i)) = S n (fun i => S m (g i)) :=
  S_congr (fun i hi => S_congr (fun j hj => h i j hi hj))
theorem S2_nonneg {n m : Nat} {f : Nat → Nat → Int} (h : ∀ i j, i < n → j < m → 0 ≤ f i j) : 0 ≤ S n (fun i => S m (f i)) :=
  S_nonneg (fun i hi => S_nonneg (fun j hj => h i j hi hj))
theorem S2_nonpos {n m : Nat} {f : Nat → Nat → Int} (h : ∀ i j, i < n → j < m → f i j ≤ 0) : S n (fun i => S m (f i)) ≤ 0 :=
  S_nonpos (fun i hi => S_nonpos (fun j hj => h i j hi hj))
theorem S_ite_const {n : Nat} (c : Bool) (f : Nat → Int) : S n (fun j => if c = true then f j else 0) = if c = true then S n f else 0 := by
  cases c
  · simp [S_zero]
  · simp
theorem S_ite_const' {n : Nat} (c : Bool) (f : Nat → Int) : S n (fun j => if c = true then 0 else f j) = if c = true then 0 else S n f := by
  cases c
  · simp
  · simp [S_zero]

theorem Cert.max {t : Net} {x y : Nat → Nat → Int} {A B : Nat → Bool} (hx : Cert t x A B) (hy : Fits t y) : t.total y ≤ t.total x := by
  have key : t.total y - t.total x ≤ 0 := by
    unfold Net.total
    rw [← S2_sub]
    have e : S t.n (fun i => S t.m (fun j => y i j - x i j)) =
        S t.n (fun i => S t.m (fun j => if A i = true then 0 else y i j - x i j)) +
        S t.n (fun i => S t.m (fun j => if A i = true then (if B j = true then 0 else y i j - x i j) else 0)) +
        S t.n (fun i => S t.m (fun j => if B j = true then y i j - x i j else 0)) -
        S t.n (fun i => S t.m (fun j => if A i = true then 0 else if B j = true then y i j - x i j else 0)) := by
      rw [← S2_add, ← S2_add, ← S2_sub]
      refine S2_congr (fun i j _ _ => ?_)
      cases A i <;> cases B j <;> simp <;> omega
    rw [e]
    have h1 : S t.n (fun i => S t.m (fun j => if A i = true then 0 else y i j - x i j)) ≤ 0 := S_nonpos (fun i hi => by
      rw [S_ite_const']
      cases hA : A i
      · simp only [Bool.false_eq_true, if_false]
        rw [S_sub]
        have := hx.rowT i hi hA; have := hy.row i hi; omega
      · simp)
    have h2 : S t.n (fun i => S t.m (fun j => if A i = true then (if B j = true then 0 else y i j - x i j) else 0)) ≤ 0 := S2_nonpos (fun i j hi hj => by
      cases hA : A i <;> cases hB : B j <;> simp
      have := hx.up i j hi hj hA hB; have := hy.hi i j hi hj; omega)
    have h3 : S t.n (fun i => S t.m (fun j => if B j = true then y i j - x i j else 0)) ≤ 0 := by
      rw [S_swap]
      refine S_nonpos (fun j hj => ?_)
      rw [S_ite_const]
      cases hB : B j
      · simp
      · simp only [if_true]
        rw [S_sub]
        have := hx.colT j hj hB; have := hy.col j hj; omega
    have h4 : 0 ≤ S t.n (fun i => S t.m (fun j => if A i = true then 0 else if B j = true then y i j - x i j else 0)) := S2_nonneg (fun i j hi hj => by
      cases hA : A i <;> cases hB : B j <;> simp
      have := hx.dn i j hi hj hA hB; have := hy.lo i j hi hj; omega)
    omega
  omega

/-- two greatest fillings have one sum -/
theorem Cert.same {t : Net} {x y : Nat → Nat → Int} {A B A' B' : Nat → Bool} (hx : Cert t x A B) (hy : Cert t y A' B') : t.total x = t.total y := by
  have h1 := hx.max hy.fits
  have h2 := hy.max hx.fits
  omega

theorem total_cols (t : Net) (x : Nat → Nat → Int) : t.total x = S t.m (fun j => S t.n (fun i => x i j)) := S_swap _ _ _

/-- a filling whose sum is that of the rows, where that is the sum of the columns, is a flow -/
theorem Fits.flow {t : Net} {x : Nat → Nat → Int} (h : Fits t x) (he : S t.n t.R = S t.m t.C) (hx : t.total x = S t.n t.R) : Flow t x := by
  have hr : ∀ i, i < t.n → t.R i - S t.m (x i) = 0 := S_eq_zero (fun i hi => by have := h.row i hi; omega) (by rw [S_sub]; unfold Net.total at hx; omega)
  have hc : ∀ j, j < t.m → t.C j - S t.n (fun i => x i j) = 0 := S_eq_zero (fun j hj => by have := h.col j hj; omega) (by rw [S_sub]; rw [total_cols] at hx; omega)
  exact ⟨h.lo, h.hi, fun i hi => by have := hr i hi; omega, fun j hj => by have := hc j hj; omega⟩
theorem Flow.total {t : Net} {x : Nat → Nat → Int} (h : Flow t x) : t.total x = S t.n t.R := S_congr (fun i hi => h.row i hi)
theorem Flow.eq_sums {t : Net} {x : Nat → Nat → Int} (h : Flow t x) : S t.n t.R = S t.m t.C := by
  rw [← h.total, total_cols]; exact S_congr (fun j hj => h.col j hj)

/-- there is a flow just where the greatest filling has the sum of the rows -/
theorem Cert.flow_iff {t : Net} {x : Nat → Nat → Int} {A B : Nat → Bool} (hx : Cert t x A B) (he : S t.n t.R = S t.m t.C) :
    (∃ y, Flow t y) ↔ t.total x = S t.n t.R := by
  constructor
  · rintro ⟨y, hy⟩
    have h1 := hx.max hy.fits
    have h2 : t.total x ≤ S t.n t.R := S_le (fun i hi => hx.fits.row i hi)
    rw [hy.total] at h1; omega
  · exact fun h => ⟨x, hx.fits.flow he h⟩

/-- the differences of two flows over a cut -/
theorem cut_diff {t : Net} {x y : Nat → Nat → Int} (hx : Flow t x) (hy : Flow t y) (A B : Nat → Bool) :
    S t.n (fun i => S t.m (fun j => if A i = true then (if B j = true then 0 else y i j - x i j) else 0)) =
    S t.n (fun i => S t.m (fun j => if A i = true then 0 else (if B j = true then y i j - x i j else 0))) := by
  have h1 : S t.n (fun i => S t.m (fun j => if A i = true then y i j - x i j else 0)) = 0 := by
    rw [S_congr (g := fun _ => 0) (fun i hi => ?_), S_zero]
    rw [S_ite_const]
    split
    · rw [S_sub]; have := hx.row i hi; have := hy.row i hi; omega
    · rfl
  have h2 : S t.n (fun i => S t.m (fun j => if B j = true then y i j - x i j else 0)) = 0 := by
    rw [S_swap, S_congr (g := fun _ => 0) (fun j hj => ?_), S_zero]
    rw [S_ite_const]
    split
    · rw [S_sub]; have := hx.col j hj; have := hy.col j hj; omega
    · rfl
  have h3 : S t.n (fun i => S t.m (fun j => if A i = true then y i j - x i j else 0)) - S t.n (fun i => S t.m (fun j => if B j = true then y i j - x i j else 0)) =
      S t.n (fun i => S t.m (fun j => if A i = true then (if B j = true then 0 else y i j - x i j) else 0)) -
      S t.n (fun i => S t.m (fun j => if A i = true then 0 else (if B j = true then y i j - x i j else 0))) := by
    rw [← S2_sub, ← S2_sub]
    refine S2_congr (fun i j _ _ => ?_)
    cases A i <;> cases B j <;> simp <;> omega
  omega

theorem S2_pull {n m a b : Nat} (ha : a < n) (hb : b < m) (f : Nat → Nat → Int) :
    S n (fun i => S m (f i)) = f a b + S n (fun i => S m (fun j => if i = a ∧ j = b then 0 else f i j)) := by
  rw [S_pull ha (fun i => S m (f i)), S_pull hb (f a), S_pull ha (fun i => S m (fun j => if i = a ∧ j = b then 0 else f i j))]
  have e1 : S m (fun j => if a = a ∧ j = b then 0 else f a j) = S m (fun i => if i = b then 0 else f a i) := S_congr (fun j _ => by simp)
  have e2 : S n (fun i => if i = a then 0 else S m (fun j => if i = a ∧ j = b then 0 else f i j)) = S n (fun i => if i = a then 0 else S m (f i)) :=
    S_congr (fun i _ => by
      by_cases e : i = a
      · simp [e]
      · simp [e])
  rw [e1, e2]; omega

/-- an element that cannot be made smaller -/
theorem Flow.least {t : Net} {x y : Nat → Nat → Int} (hx : Flow t x) (hy : Flow t y) {a b : Nat} (ha : a < t.n) (hb : b < t.m) (A B : Nat → Bool) (hA : A a = true) (hB : B b = false)
    (up : ∀ i j, i < t.n → j < t.m → A i = true → B j = false → ¬ (i = a ∧ j = b) → x i j = t.Hi i j)
    (dn : ∀ i j, i < t.n → j < t.m → A i = false → B j = true → x i j = t.Lo i j) : x a b ≤ y a b := by
  have h := cut_diff hx hy A B
  rw [S2_pull ha hb] at h
  simp only [hA, hB, if_true, Bool.false_eq_true, if_false] at h
  have h1 : S t.n (fun i => S t.m (fun j => if i = a ∧ j = b then 0 else if A i = true then (if B j = true then 0 else y i j - x i j) else 0)) ≤ 0 := S2_nonpos (fun i j hi hj => by
    split
    · exact Int.le_refl _
    · rename_i hne
      cases hA : A i <;> cases hB : B j <;> simp
      have := up i j hi hj hA hB hne; have := hy.hi i j hi hj; omega)
  have h2 : 0 ≤ S t.n (fun i => S t.m (fun j => if A i = true then 0 else (if B j = true then y i j - x i j else 0))) := S2_nonneg (fun i j hi hj => by
    cases hA : A i <;> cases hB : B j <;> simp
    have := dn i j hi hj hA hB; have := hy.lo i j hi hj; omega)
  omega
/-- an element that cannot be made greater -/
theorem Flow.greatest {t : Net} {x y : Nat → Nat → Int} (hx : Flow t x) (hy : Flow t y) {a b : Nat} (ha : a < t.n) (hb : b < t.m) (A B : Nat → Bool) (hA : A a = false) (hB : B b = true)
    (up : ∀ i j, i < t.n → j < t.m → A i = true → B j = false → x i j = t.Hi i j)
    (dn : ∀ i j, i < t.n → j < t.m → A i = false → B j = true → ¬ (i = a ∧ j = b) → x i j = t.Lo i j) : y a b ≤ x a b := by
  have h := cut_diff hx hy A B
  rw [S2_pull ha hb (fun i j => if A i = true then 0 else (if B j = true then y i j - x i j else 0))] at h
  simp only [hA, hB, if_true, Bool.false_eq_true, if_false] at h
  have h1 : 0 ≤ S t.n (fun i => S t.m (fun j => if i = a ∧ j = b then 0 else if A i = true then 0 else (if B j = true then y i j - x i j else 0))) := S2_nonneg (fun i j hi hj => by
    split
    · exact Int.le_refl _
    · rename_i hne
      cases hA : A i <;> cases hB : B j <;> simp
      have := dn i j hi hj hA hB hne; have := hy.lo i j hi hj; omega)
  have h2 : S t.n (fun i => S t.m (fun j => if A i = true then (if B j = true then 0 else y i j - x i j) else 0)) ≤ 0 := S2_nonpos (fun i j hi hj => by
    cases hA : A i <;> cases hB : B j <;> simp
    have := up i j hi hj hA hB; have := hy.hi i j hi hj; omega)
  omega

/-- a cut shows that there is no flow -/
theorem Flow.no_cut {t : Net} {x : Nat → Nat → Int} (hx : Flow t x) (A B : Nat → Bool) :
    S t.n (fun i => if A i = true then t.R i else 0) ≤
      S t.m (fun j => if B j = true then t.C j else 0) +
      S t.n (fun i => S t.m (fun j => if A i = true then (if B j = true then 0 else t.Hi i j) else 0)) -
      S t.n (fun i => S t.m (fun j => if A i = true then 0 else (if B j = true then t.Lo i j else 0))) := by
  have e1 : S t.n (fun i => if A i = true then t.R i else 0) = S t.n (fun i => S t.m (fun j => if A i = true then x i j else 0)) :=
    S_congr (fun i hi => by rw [S_ite_const]; split <;> simp_all [hx.row i hi])
  have e2 : S t.m (fun j => if B j = true then t.C j else 0) = S t.n (fun i => S t.m (fun j => if B j = true then x i j else 0)) := by
    rw [S_swap]
    exact S_congr (fun j hj => by rw [S_ite_const]; split <;> simp_all [hx.col j hj])
  have e3 : S t.n (fun i => S t.m (fun j => if A i = true then x i j else 0)) - S t.n (fun i => S t.m (fun j => if B j = true then x i j else 0)) =
      S t.n (fun i => S t.m (fun j => if A i = true then (if B j = true then 0 else x i j) else 0)) -
      S t.n (fun i => S t.m (fun j => if A i = true then 0 else (if B j = true then x i j else 0))) := by
    rw [← S2_sub, ← S2_sub]
    refine S2_congr (fun i j _ _ => ?_)
    cases A i <;> cases B j <;> simp
  have h1 : S t.n (fun i => S t.m (fun j => if A i = true then (if B j = true then 0 else x i j) else 0)) ≤ S t.n (fun i => S t.m (fun j => if A i = true then (if B j = true then 0 else t.Hi i j) else 0)) :=
    S_le (fun i hi => S_le (fun j hj => by cases A i <;> cases B j <;> simp; exact hx.hi i j hi hj))
  have h2 : S t.n (fun i => S t.m (fun j => if A i = true then 0 else (if B j = true then t.Lo i j else 0))) ≤ S t.n (fun i => S t.m (fun j => if A i = true then 0 else (if B j = true then x i j else 0))) :=
    S_le (fun i hi => S_le (fun j hj => by cases A i <;> cases B j <;> simp; exact hx.lo i j hi hj))
  omega

/-! ### Sending from a node to another one over what is left -/
/-- r' is what is left of r when 'sent' has been sent from s to t, as much as can be sent up to 'lim' -/
structure Pushed (N : Nat) (r : Nat → Nat → Int) (s t : Nat) (lim sent : Int) (r' : Nat → Nat → Int) : Prop where
  nonneg : ∀ u v, u < N → v < N → 0 ≤ r' u v
  pair : ∀ u v, u < N → v < N → r' u v + r' v u = r u v + r v u
  node : ∀ u, u < N → u ≠ s → u ≠ t → S N (r' u) = S N (r u)
  src : S N (r s) - S N (r' s) = sent
  pos : 0 ≤ sent
  le : 0 ≤ lim → sent ≤ lim
  done : lim ≤ sent ∨ ∃ A : Nat → Bool, A s = true ∧ A t = false ∧ ∀ u v, u < N → v < N → A u = true → A v = false → r' u v = 0

/-- the nodes from v back to s, s left out -/
def Chain (bk : Nat → Nat) (s : Nat) : Nat → List Nat → Prop
  | v, [] => v = s
  | v, a :: l => a = v ∧ v ≠ s ∧ Chain bk s (bk v) l

theorem Chain.rank {bk : Nat → Nat} {s : Nat} {d : Nat → Nat} {V : Nat → Prop} (hd : ∀ v, V v → v ≠ s → V (bk v) ∧ d (bk v) < d v) :
    ∀ (l : List Nat) (v : Nat), V v → Chain bk s v l → ∀ u, u ∈ l → V u ∧ u ≠ s ∧ d u ≤ d v
  | [], _, _, _, u, hu => by simp at hu
  | a :: l, v, hv, ⟨ha, hs, hc⟩, u, hu => by
    subst ha
    rcases List.mem_cons.1 hu with rfl | hu
    · exact ⟨hv, hs, Nat.le_refl _⟩
    · have h1 := hd a hv hs
      have h2 := Chain.rank hd l (bk a) h1.1 hc u hu
      exact ⟨h2.1, h2.2.1, by omega⟩
theorem Chain.nodup {bk : Nat → Nat} {s : Nat} {d : Nat → Nat} {V : Nat → Prop} (hd : ∀ v, V v → v ≠ s → V (bk v) ∧ d (bk v) < d v) :
    ∀ (l : List Nat) (v : Nat), V v → Chain bk s v l → l.Nodup
  | [], _, _, _ => List.nodup_nil
  | a :: l, v, hv, ⟨ha, hs, hc⟩ => by
    subst ha
    have h1 := hd a hv hs
    refine List.nodup_cons.2 ⟨fun hm => ?_, Chain.nodup hd l (bk a) h1.1 hc⟩
    have := (Chain.rank hd l (bk a) h1.1 hc a hm).2.2
    omega
theorem Chain.exist {bk : Nat → Nat} {s : Nat} {d : Nat → Nat} {V : Nat → Prop} (hd : ∀ v, V v → v ≠ s → V (bk v) ∧ d (bk v) < d v) :
    ∀ (k : Nat) (v : Nat), d v ≤ k → V v → ∃ l, Chain bk s v l
  | k, v, hk, hv => by
    by_cases e : v = s
    · exact ⟨[], e⟩
    · have h1 := hd v hv e
      match k with
      | 0 => omega
      | k + 1 =>
        obtain ⟨l, hl⟩ := Chain.exist hd k (bk v) (by omega) h1.1
        exact ⟨v :: l, rfl, e, hl⟩

/-- what is left once c has been sent over the edges into the nodes of l -/
def along (bk : Nat → Nat) (c : Int) (l : List Nat) (r : Nat → Nat → Int) : Nat → Nat → Int := fun u v =>
  r u v - (if v ∈ l ∧ bk v = u then c else 0) + (if u ∈ l ∧ bk u = v then c else 0)

theorem along_nil (bk : Nat → Nat) (c : Int) (r : Nat → Nat → Int) : along bk c [] r = r := by
  funext u v; simp [along]
theorem along_snoc (bk : Nat → Nat) (c : Int) {l : List Nat} (r : Nat → Nat → Int) {x : Nat} (hx : x ∉ l) (u v : Nat) :
    along bk c (l ++ [x]) r u v = along bk c l r u v - (if v = x ∧ bk x = u then c else 0) + (if u = x ∧ bk x = v then c else 0) := by
  simp only [along, List.mem_append, List.mem_singleton]
  have e1 : (if (v ∈ l ∨ v = x) ∧ bk v = u then c else 0) = (if v ∈ l ∧ bk v = u then c else 0) + (if v = x ∧ bk x = u then c else 0) := by
    by_cases h1 : v ∈ l
    · have : v ≠ x := fun e => hx (e ▸ h1)
      simp [h1, this]
    · by_cases h2 : v = x
      · subst h2; simp [h1]
      · simp [h1, h2]
  have e2 : (if (u ∈ l ∨ u = x) ∧ bk u = v then c else 0) = (if u ∈ l ∧ bk u = v then c else 0) + (if u = x ∧ bk x = v then c else 0) := by
    by_cases h1 : u ∈ l
    · have : u ≠ x := fun e => hx (e ▸ h1)
      simp [h1, this]
    · by_cases h2 : u = x
      · subst h2; simp [h1]
      · simp [h1, h2]
  rw [e1, e2]; omega

theorem chain_count {bk : Nat → Nat} {s N : Nat} (c : Int) (u : Nat) : ∀ (l : List Nat) (v : Nat), Chain bk s v l → l.Nodup → (∀ w, w ∈ l → w < N ∧ bk w < N) → 
    S N (fun w => if w ∈ l ∧ bk w = u then c else 0) - (if u ∈ l then c else 0) = (if u = s then c else 0) - (if u = v then c else 0)
  | [], v, hc, _, _ => by
    simp only [Chain] at hc; subst hc
    simp [S_zero]
  | a :: l, v, ⟨ha, hs, hc⟩, hn, hN => by
    subst ha
    have hn' := List.nodup_cons.1 hn
    have ih := chain_count c u l (bk a) hc hn'.2 (fun w hw => hN w (List.mem_cons_of_mem _ hw))
    have ha := (hN a (List.mem_cons_self)).1
    have e : S N (fun w => if w ∈ a :: l ∧ bk w = u then c else 0) = (if bk a = u then c else 0) + S N (fun w => if w ∈ l ∧ bk w = u then c else 0) := by
      have : S N (fun w => if w ∈ a :: l ∧ bk w = u then c else 0) = S N (fun w => (if w = a then (if bk a = u then c else 0) else 0) + (if w ∈ l ∧ bk w = u then c else 0)) :=
        S_congr (fun w _ => by
          by_cases h1 : w = a
          · subst h1; simp [hn'.1]
          · simp [h1])
      rw [this, S_add, S_single ha]
    have e2 : (if u ∈ a :: l then c else 0) = (if u = a then c else 0) + (if u ∈ l then c else 0) := by
      by_cases h1 : u = a
      · subst h1; simp [hn'.1]
      · simp [h1]
    have e3 : (if bk a = u then c else 0) = (if u = bk a then c else 0) := by
      by_cases h : bk a = u
      · simp [h]
      · have : ¬ u = bk a := fun e => h e.symm
        simp [h, this]
    rw [e, e2, e3]; omega

theorem S_along {bk : Nat → Nat} {s N : Nat} (c : Int) {l : List Nat} {t : Nat} (r : Nat → Nat → Int) (hc : Chain bk s t l) (hn : l.Nodup) (hN : ∀ w, w ∈ l → w < N ∧ bk w < N) (u : Nat) :
    S N (along bk c l r u) = S N (r u) - (if u = s then c else 0) + (if u = t then c else 0) := by
  unfold along
  rw [S_add, S_sub]
  have h1 := chain_count c u l t hc hn hN
  have h2 : S N (fun v => if u ∈ l ∧ bk u = v then c else 0) = if u ∈ l then c else 0 := by
    by_cases h : u ∈ l
    · have : S N (fun v => if u ∈ l ∧ bk u = v then c else 0) = S N (fun v => if v = bk u then c else 0) := S_congr (fun v _ => by
        by_cases h' : bk u = v
        · simp [h, h']
        · have : ¬ v = bk u := fun e => h' e.symm
          simp [h', this])
      rw [this, S_single (hN u h).2]; simp [h]
    · simp [h, S_zero]
  rw [h2]; omega

/-- the state of a sending: 'sent' so far, r' left -/
structure Sent (N : Nat) (r : Nat → Nat → Int) (s t : Nat) (sent : Int) (r' : Nat → Nat → Int) : Prop where
  nonneg : ∀ u v, u < N → v < N → 0 ≤ r' u v
  pair : ∀ u v, u < N → v < N → r' u v + r' v u = r u v + r v u
  node : ∀ u, u < N → u ≠ s → u ≠ t → S N (r' u) = S N (r u)
  src : S N (r s) - S N (r' s) = sent
theorem Sent.start {N : Nat} {r : Nat → Nat → Int} {s t : Nat} (h : ∀ u v, u < N → v < N → 0 ≤ r u v) : Sent N r s t 0 r := ⟨h, fun _ _ _ _ => rfl, fun _ _ _ _ => rfl, by omega⟩
theorem Sent.step {N : Nat} {r r' : Nat → Nat → Int} {s t : Nat} {sent c : Int} {bk : Nat → Nat} {l : List Nat} (h : Sent N r s t sent r') (hst : s ≠ t) (hc : Chain bk s t l) (hn : l.Nodup)
    (hN : ∀ w, w ∈ l → w < N ∧ bk w < N) (hle : ∀ w, w ∈ l → c ≤ r' (bk w) w) (h0 : 0 ≤ c) : Sent N r s t (sent + c) (along bk c l r') := by
  refine ⟨fun u v hu hv => ?_, fun u v hu hv => ?_, fun u hu h1 h2 => ?_, ?_⟩
  · have := h.nonneg u v hu hv
    simp only [along]
    split
    · rename_i hh; obtain ⟨hm, rfl⟩ := hh
      have := hle v hm
      split <;> omega
    · split <;> omega
  · simp only [along]
    have := h.pair u v hu hv
    omega
  · rw [S_along c r' hc hn hN, if_neg h1, if_neg h2]; have := h.node u hu h1 h2; omega
  · rw [S_along c r' hc hn hN, if_pos rfl, if_neg hst]; have := h.src; omega
end Fm
end Go.Proofs.Ytodnkahnbidgaaa
