/- ExpBounds, plain: the sums of (-x)^i / i!. -/
import Derived.Test.YtmhofeljieicaaaFracQ
namespace Go.Proofs.Ytmhofeljieicaaa

def pwI (x : Int) : Nat → Int
  | 0 => 1
  | i + 1 => pwI x i * x
def facI : Nat → Int
  | 0 => 1
  | i + 1 => facI i * ((i : Int) + 1)
theorem pwI_pos {d : Int} (h : 1 ≤ d) : ∀ i, 1 ≤ pwI d i
  | 0 => by simp [pwI]
  | i + 1 => by
    have h1 := pwI_pos h i
    have h2 : 0 < pwI d i * d := Int.mul_pos (by omega) (by omega)
    show 1 ≤ pwI d i * d
    omega
theorem facI_pos : ∀ i, 1 ≤ facI i
  | 0 => by simp [facI]
  | i + 1 => by
    have h1 := facI_pos i
    have h2 : 0 < facI i * ((i : Int) + 1) := Int.mul_pos (by omega) (by omega)
    show 1 ≤ facI i * ((i : Int) + 1)
    omega
theorem facI_le {i : Nat} (h : i ≤ 12) : facI i ≤ 479001600 := by
  have : ∀ j : Nat, j ≤ 12 → facI j ≤ facI 12 := by
    intro j hj
    rcases j with _ | _ | _ | _ | _ | _ | _ | _ | _ | _ | _ | _ | _ | j <;> first | decide | omega
  exact Int.le_trans (this i h) (by decide)
theorem pwI_abs {n d : Int} (h0 : 0 ≤ n) (h1 : n ≤ d) : ∀ i, (pwI (-n) i).natAbs ≤ (pwI d i).natAbs
  | 0 => by simp [pwI]
  | i + 1 => by
    show (pwI (-n) i * -n).natAbs ≤ (pwI d i * d).natAbs
    rw [Int.natAbs_mul, Int.natAbs_mul]
    exact Nat.mul_le_mul (pwI_abs h0 h1 i) (by omega)
/-- a denominator that is multiplied does not become less in lowest terms -/
theorem fD_mono {N q c : Int} (hq : 1 ≤ q) (hc : 1 ≤ c) : fD N q ≤ fD N (q * c) := by
  have hqc : 0 < q * c := Int.mul_pos (by omega) (by omega)
  obtain ⟨p1, q1, _, hq1, _, e2, _, _, hs⟩ := fN_fD (n := N) (d := q) (by omega)
  obtain ⟨p2, q2, _, hq2, _, e4, _, _, hs2⟩ := fN_fD (n := N) (d := q * c) (by omega)
  have g1 : fD N q = q1 := by unfold fD; rw [if_neg (by omega), hq1]
  have g2 : fD N (q * c) = q2 := by unfold fD; rw [if_neg (by omega), hq2]
  rw [g1, g2]
  have hg : fg N (q * c) ≤ fg N q * c.natAbs := by
    unfold fg
    rw [Int.natAbs_mul]
    have h1 : Nat.gcd N.natAbs (q.natAbs * c.natAbs) ∣ Nat.gcd N.natAbs q.natAbs * c.natAbs :=
      Nat.dvd_trans (Nat.gcd_mul_right_dvd_mul_gcd _ _ _) (Nat.mul_dvd_mul_left _ (Nat.gcd_dvd_right _ _))
    exact Nat.le_of_dvd (Nat.mul_pos (Nat.gcd_pos_of_pos_right _ (by omega)) (by omega)) h1
  have hp1 := fg_pos (n := N) (d := q) (by omega)
  have hp2 := fg_pos (n := N) (d := q * c) (by omega)
  obtain ⟨a, ha⟩ : ∃ a, fg N q = a := ⟨_, rfl⟩
  obtain ⟨b, hb⟩ : ∃ b, fg N (q * c) = b := ⟨_, rfl⟩
  rw [ha] at e2 hg hp1
  rw [hb] at e4 hg hp2
  have hg' : (b : Int) ≤ a * c := by
    have h9 : ((b : Nat) : Int) ≤ ((a * c.natAbs : Nat) : Int) := by exact_mod_cast hg
    have h8 : ((a * c.natAbs : Nat) : Int) = (a : Int) * c := by
      rw [Int.natCast_mul]; congr 1; omega
    rw [h8] at h9; exact h9
  -- q1 a c = q c = q2 b ≤ q2 a c
  have hq2p : 0 < q2 := by
    by_cases h : 0 < q2
    · exact h
    · have : q2 * (b : Int) ≤ 0 := Int.mul_nonpos_of_nonpos_of_nonneg (by omega) (by omega)
      omega
  have h5 : q1 * (a * c) = q2 * b := by
    rw [← e4]; conv => rhs; rw [e2]
    rw [Int.mul_assoc]
  have h6 : q1 * (a * c) ≤ q2 * (a * c) := by
    rw [h5]; exact Int.mul_le_mul_of_nonneg_left hg' (by omega)
  exact Int.le_of_mul_le_mul_right h6 (Int.mul_pos (by omega) (by omega))
theorem fN_abs {N q : Int} (hq : 1 ≤ q) (h : N.natAbs ≤ q.natAbs) : (fN N q).natAbs ≤ (fD N q).natAbs := by
  obtain ⟨h1, h2, h3⟩ := fN_pos (n := N) (d := q) (by omega)
  have h4 : N.natAbs * (fD N q).natAbs = (fN N q).natAbs * q.natAbs := by rw [← Int.natAbs_mul, h3, Int.natAbs_mul]
  have h5 : (fN N q).natAbs * q.natAbs ≤ (fD N q).natAbs * q.natAbs := by
    rw [← h4, Nat.mul_comm]; exact Nat.mul_le_mul_left _ h
  exact Nat.le_of_mul_le_mul_right h5 (by omega)
theorem fB_iff {N q : Int} (hq : 1 ≤ q) (h : N.natAbs ≤ q.natAbs) : fB N q = true ↔ fD N q ≤ 1000000000 := by
  have h1 := fN_abs hq h
  have h2 := (fN_pos (n := N) (d := q) (by omega)).1
  unfold fB
  simp only [Bool.and_eq_true, decide_eq_true_eq]
  omega
theorem fB_less {N q c : Int} (hq : 1 ≤ q) (hc : 1 ≤ c) (h : N.natAbs ≤ q.natAbs) (hb : fB N (q * c) = true) : fB N q = true := by
  have hqc : 0 < q * c := Int.mul_pos (by omega) (by omega)
  have h2 : N.natAbs ≤ (q * c).natAbs := by
    rw [Int.natAbs_mul]; exact Nat.le_trans h (Nat.le_mul_of_pos_right _ (by omega))
  rw [fB_iff hq h]
  exact Int.le_trans (fD_mono hq hc) ((fB_iff (by omega) h2).1 hb)

/-- the i-th term as it stands -/
def tmN (n : Int) (i : Nat) : Int := pwI (-n) i
def tmD (d : Int) (i : Nat) : Int := pwI d i * facI i
theorem tmD_pos {d : Int} (h : 1 ≤ d) (i : Nat) : 1 ≤ tmD d i := by
  have := Int.mul_pos (show 0 < pwI d i by have := pwI_pos h i; omega) (show 0 < facI i by have := facI_pos i; omega)
  unfold tmD; omega
section
variable {n d : Int} (h0 : 0 ≤ n) (h1 : n ≤ d) (hd : 1 ≤ d)
include h0 h1 hd
theorem pw_ok {i : Nat} (h : fB (tmN n i) (tmD d i) = true) : fB (pwI (-n) i) (pwI d i) = true :=
  fB_less (pwI_pos hd i) (facI_pos i) (pwI_abs h0 h1 i) h
theorem yy_ok {i : Nat} (h : fB (tmN n (i + 1)) (tmD d (i + 1)) = true) : fB (pwI (-n) (i + 1)) (pwI d (i + 1) * facI i) = true := by
  have hq : 1 ≤ pwI d (i + 1) * facI i := by
    have := Int.mul_pos (show 0 < pwI d (i + 1) by have := pwI_pos hd (i + 1); omega) (show 0 < facI i by have := facI_pos i; omega)
    omega
  refine fB_less (c := (i : Int) + 1) hq (by omega) ?_ ?_
  · rw [Int.natAbs_mul]
    exact Nat.le_trans (pwI_abs h0 h1 (i + 1)) (Nat.le_mul_of_pos_right _ (by have := facI_pos i; omega))
  · have e : pwI d (i + 1) * facI i * ((i : Int) + 1) = tmD d (i + 1) := by unfold tmD; rw [Int.mul_assoc]; rfl
    rw [e]; exact h
end
/-- (numerator, denominator) of the i-th term in lowest terms -/
def tN (n d : Int) (i : Nat) : Int := fVN (tmN n i) (tmD d i)
def tD (n d : Int) (i : Nat) : Int := fVD (tmN n i) (tmD d i)
/-- the sum of the terms up to the i-th, nothing where one of the steps does not fit -/
def eSum (n d : Int) : Nat → Option (Int × Int)
  | 0 => some (1, 1)
  | i + 1 => match eSum n d i with
    | none => none
    | some s => if fB (tmN n (i + 1)) (tmD d (i + 1)) = true then
        (if fB (s.1 * tD n d (i + 1) + tN n d (i + 1) * s.2) (s.2 * tD n d (i + 1)) = true then some (fVN (s.1 * tD n d (i + 1) + tN n d (i + 1) * s.2) (s.2 * tD n d (i + 1)), fVD (s.1 * tD n d (i + 1) + tN n d (i + 1) * s.2) (s.2 * tD n d (i + 1))) else none) else none
theorem eSum_good {n d : Int} (hd : 1 ≤ d) : ∀ (i : Nat) (a b : Int), eSum n d i = some (a, b) → goodF a b = true
  | 0, a, b, h => by simp only [eSum, Option.some.injEq, Prod.mk.injEq] at h; obtain ⟨rfl, rfl⟩ := h; decide
  | i + 1, a, b, h => by
    rw [eSum] at h
    split at h
    · cases h
    · rename_i s hs
      split at h
      · split at h
        · rename_i h1 h2
          simp only [Option.some.injEq, Prod.mk.injEq] at h
          obtain ⟨rfl, rfl⟩ := h
          have hg := eSum_good hd i s.1 s.2 hs
          have hb := (goodF_bounds hg).1
          have ht := (f_val (n := tmN n (i + 1)) (d := tmD d (i + 1)) (by have := tmD_pos hd (i + 1); omega) h1).2.2
          have ht2 := (goodF_bounds ht).1
          have : 0 < s.2 * tD n d (i + 1) := Int.mul_pos (by omega) (by unfold tD; omega)
          exact (f_val (by omega) h2).2.2
        · cases h
      · cases h
/-- once nothing, always nothing -/
theorem eSum_none {n d : Int} {i : Nat} (h : eSum n d i = none) : ∀ k, i ≤ k → eSum n d k = none := by
  intro k hk
  induction k with
  | zero => have : i = 0 := by omega
            rw [this] at h; exact h
  | succ k ih =>
    by_cases e : i = k + 1
    · rw [← e]; exact h
    · rw [eSum, ih (by omega)]
theorem term_good {n d : Int} (hd : 1 ≤ d) {i : Nat} (h : fB (tmN n i) (tmD d i) = true) : goodF (tN n d i) (tD n d i) = true ∧ tmN n i * tD n d i = tN n d i * tmD d i := by
  have hp : tmD d i ≠ 0 := by have := tmD_pos hd i; omega
  obtain ⟨e1, e2, e3⟩ := f_val hp h
  refine ⟨e3, ?_⟩
  unfold tN tD
  rw [e1, e2]; exact (fN_pos (n := tmN n i) hp).2.2
theorem term_zero {n d : Int} : tN n d 0 = 1 ∧ tD n d 0 = 1 ∧ fB (tmN n 0) (tmD d 0) = true := by
  have e1 : tmN n 0 = 1 := rfl
  have e2 : tmD d 0 = 1 := by simp [tmD, pwI, facI]
  unfold tN tD
  rw [e1, e2]; exact ⟨by decide, by decide, by decide⟩
/-- power by factorial -/
theorem term_of_pow {n d P Q : Int} (hd : 1 ≤ d) (hQ : 1 ≤ Q) {i : Nat} (h : pwI (-n) i * Q = P * pwI d i) : fB (P * 1) (Q * facI i) = fB (tmN n i) (tmD d i) ∧ fVN (P * 1) (Q * facI i) = tN n d i ∧ fVD (P * 1) (Q * facI i) = tD n d i := by
  have h1 : 0 < Q * facI i := Int.mul_pos (by omega) (by have := facI_pos i; omega)
  have h2 := tmD_pos hd i
  refine fB_congr (by omega) (by omega) ?_
  show P * 1 * (pwI d i * facI i) = pwI (-n) i * (Q * facI i)
  rw [Int.mul_one, ← Int.mul_assoc, ← h, Int.mul_assoc]
/-- the spec's product -/
theorem yy_of_term {n d : Int} (hd : 1 ≤ d) {i : Nat} (hb : fB (tmN n i) (tmD d i) = true) :
    fB (tN n d i * -n) (tD n d i * d) = fB (pwI (-n) (i + 1)) (pwI d (i + 1) * facI i) ∧ fVN (tN n d i * -n) (tD n d i * d) = fVN (pwI (-n) (i + 1)) (pwI d (i + 1) * facI i) ∧ fVD (tN n d i * -n) (tD n d i * d) = fVD (pwI (-n) (i + 1)) (pwI d (i + 1) * facI i) := by
  obtain ⟨g, e⟩ := term_good hd hb
  have h1 := (goodF_bounds g).1
  have h2 : 0 < tD n d i * d := Int.mul_pos (by omega) (by omega)
  have h3 : 0 < pwI d (i + 1) * facI i := Int.mul_pos (by have := pwI_pos hd (i + 1); omega) (by have := facI_pos i; omega)
  refine fB_congr (by omega) (by omega) ?_
  show tN n d i * -n * (pwI d i * d * facI i) = pwI (-n) i * -n * (tD n d i * d)
  have e' : pwI (-n) i * tD n d i = tN n d i * (pwI d i * facI i) := e
  have a1 : tN n d i * -n * (pwI d i * d * facI i) = tN n d i * (pwI d i * facI i) * (-n * d) := by
    rw [Int.mul_right_comm (pwI d i) d (facI i), Int.mul_assoc (tN n d i) (-n), Int.mul_left_comm (-n), ← Int.mul_assoc (tN n d i)]
  have a2 : pwI (-n) i * -n * (tD n d i * d) = pwI (-n) i * tD n d i * (-n * d) := by
    rw [Int.mul_assoc (pwI (-n) i) (-n), Int.mul_left_comm (-n), ← Int.mul_assoc (pwI (-n) i)]
  rw [a1, a2, e']
/-- and the quotient of it -/
theorem term_of_yy {n d A B : Int} (hd : 1 ≤ d) {i : Nat} (hB : 1 ≤ B) (h : pwI (-n) (i + 1) * B = A * (pwI d (i + 1) * facI i)) :
    fB (A * 1) (B * ((i : Int) + 1)) = fB (tmN n (i + 1)) (tmD d (i + 1)) ∧ fVN (A * 1) (B * ((i : Int) + 1)) = tN n d (i + 1) ∧ fVD (A * 1) (B * ((i : Int) + 1)) = tD n d (i + 1) := by
  have h1 : 0 < B * ((i : Int) + 1) := Int.mul_pos (by omega) (by omega)
  have h2 := tmD_pos hd (i + 1)
  refine fB_congr (by omega) (by omega) ?_
  show A * 1 * (pwI d (i + 1) * (facI i * ((i : Int) + 1))) = pwI (-n) (i + 1) * (B * ((i : Int) + 1))
  rw [Int.mul_one, ← Int.mul_assoc (pwI (-n) (i + 1)), h, Int.mul_assoc A, Int.mul_assoc (pwI d (i + 1))]
/-- a power more -/
theorem pow_next {a b P Q : Int} (hb : 1 ≤ b) (hQ : 1 ≤ Q) {i : Nat} (h : pwI a i * Q = P * pwI b i) : fB (P * a) (Q * b) = fB (pwI a (i + 1)) (pwI b (i + 1)) ∧ fVN (P * a) (Q * b) = fVN (pwI a (i + 1)) (pwI b (i + 1)) ∧ fVD (P * a) (Q * b) = fVD (pwI a (i + 1)) (pwI b (i + 1)) := by
  have h1 : 0 < Q * b := Int.mul_pos (by omega) (by omega)
  have h2 := pwI_pos hb (i + 1)
  refine fB_congr (by omega) (by omega) ?_
  show P * a * (pwI b i * b) = pwI a i * a * (Q * b)
  have a1 : P * a * (pwI b i * b) = P * pwI b i * (a * b) := by
    rw [Int.mul_assoc P a, Int.mul_left_comm a, ← Int.mul_assoc P]
  have a2 : pwI a i * a * (Q * b) = pwI a i * Q * (a * b) := by
    rw [Int.mul_assoc (pwI a i) a, Int.mul_left_comm a, ← Int.mul_assoc (pwI a i)]
  rw [a1, a2, h]
theorem pow_val {a b : Int} (hb : 1 ≤ b) {i : Nat} (h : fB (pwI a i) (pwI b i) = true) : goodF (fVN (pwI a i) (pwI b i)) (fVD (pwI a i) (pwI b i)) = true ∧ pwI a i * fVD (pwI a i) (pwI b i) = fVN (pwI a i) (pwI b i) * pwI b i := by
  have hp : pwI b i ≠ 0 := by have := pwI_pos hb i; omega
  obtain ⟨e1, e2, e3⟩ := f_val hp h
  refine ⟨e3, ?_⟩
  rw [e1, e2]; exact (fN_pos (n := pwI a i) hp).2.2
end Go.Proofs.Ytmhofeljieicaaa
