/- Plain: greatest common divisors and fractions in lowest terms. -/
import Derived.Test.YtmhofeljieicaaaNum
namespace Go.Proofs.Ytmhofeljieicaaa

/-- the greatest common divisor -/
def fg (n d : Int) : Nat := Nat.gcd n.natAbs d.natAbs
theorem fg_pos {n d : Int} (h : d ≠ 0) : 0 < fg n d := Nat.gcd_pos_of_pos_right _ (by omega)
theorem fg_step (a b : Int) : fg b (a.tmod b) = fg a b := by
  unfold fg
  rw [Int.natAbs_tmod, Nat.gcd_comm b.natAbs, ← Nat.gcd_rec, Nat.gcd_comm]
theorem fg_zero (a : Int) : fg a 0 = a.natAbs := by simp [fg]
theorem fg_dvd_left (n d : Int) : ((fg n d : Nat) : Int) ∣ n := Int.ofNat_dvd_left.2 (Nat.gcd_dvd_left _ _)
theorem fg_dvd_right (n d : Int) : ((fg n d : Nat) : Int) ∣ d := Int.ofNat_dvd_left.2 (Nat.gcd_dvd_right _ _)
/-- the quotients by it -/
theorem fg_quot {n d : Int} (h : d ≠ 0) : ∃ p q : Int, n = p * fg n d ∧ d = q * fg n d ∧ q ≠ 0 ∧ fg p q = 1 := by
  have hg := fg_pos (n := n) h
  have d1 := fg_dvd_left n d
  have d2 := fg_dvd_right n d
  obtain ⟨g, hgg⟩ : ∃ g, g = fg n d := ⟨_, rfl⟩
  rw [← hgg] at hg d1 d2 ⊢
  obtain ⟨p, hp⟩ := d1
  obtain ⟨q, hq⟩ := d2
  subst hp hq
  refine ⟨p, q, Int.mul_comm _ _, Int.mul_comm _ _, fun e => h (by rw [e]; simp), ?_⟩
  have h3 : g = g * fg p q := by
    unfold fg at hgg ⊢
    rw [Int.natAbs_mul, Int.natAbs_mul, Nat.gcd_mul_left] at hgg
    simpa using hgg
  have : g * 1 = g * fg p q := by rw [Nat.mul_one]; exact h3
  exact (Nat.eq_of_mul_eq_mul_left hg this).symm
theorem fg_neg_left (n d : Int) : fg (-n) d = fg n d := by simp [fg]
theorem fg_neg_right (n d : Int) : fg n (-d) = fg n d := by simp [fg]

/-- n / d in lowest terms with a positive denominator: numerator, denominator -/
def fN (n d : Int) : Int := if d < 0 then -(n.tdiv (fg n d)) else n.tdiv (fg n d)
def fD (n d : Int) : Int := if d < 0 then -(d.tdiv (fg n d)) else d.tdiv (fg n d)
/-- is that fraction valid -/
def fB (n d : Int) : Bool := decide (-1000000000 ≤ fN n d) && (decide (fN n d ≤ 1000000000) && decide (fD n d ≤ 1000000000))
/-- what the program hands back -/
def fVN (n d : Int) : Int := if fB n d = true then fN n d else 0
def fVD (n d : Int) : Int := if fB n d = true then fD n d else 0
/-- a valid fraction -/
def goodF (n d : Int) : Bool := decide (1 ≤ d) && (decide (d ≤ 1000000000) && (decide (-1000000000 ≤ n) && (decide (n ≤ 1000000000) && decide (fg n d = 1))))
theorem fN_fD {n d : Int} (h : d ≠ 0) : ∃ p q : Int, n.tdiv (fg n d) = p ∧ d.tdiv (fg n d) = q ∧ n = p * fg n d ∧ d = q * fg n d ∧ fg p q = 1 ∧ q ≠ 0 ∧ (d < 0 ↔ q < 0) := by
  obtain ⟨p, q, h1, h2, h3, h4⟩ := fg_quot (n := n) h
  have hg := fg_pos (n := n) h
  obtain ⟨g, hgg⟩ : ∃ g, g = fg n d := ⟨_, rfl⟩
  rw [← hgg] at h1 h2 hg ⊢
  have g0 : (g : Int) ≠ 0 := by omega
  refine ⟨p, q, by rw [h1]; exact Int.mul_tdiv_cancel _ g0, by rw [h2]; exact Int.mul_tdiv_cancel _ g0, h1, h2, h4, h3, ?_⟩
  constructor
  · intro hd
    by_cases hq : q < 0
    · exact hq
    · have : 0 ≤ q * (g : Int) := Int.mul_nonneg (by omega) (by omega)
      omega
  · intro hq
    have : q * (g : Int) < 0 := Int.mul_neg_of_neg_of_pos hq (by omega)
    omega
theorem fg_le_left {n d : Int} (h : n ≠ 0) : (fg n d : Int) ≤ (n.natAbs : Int) := by
  have : fg n d ≤ n.natAbs := Nat.gcd_le_left _ (by omega)
  omega
theorem fg_le_right {n d : Int} (h : d ≠ 0) : (fg n d : Int) ≤ (d.natAbs : Int) := by
  have : fg n d ≤ d.natAbs := Nat.gcd_le_right _ (by omega)
  omega
theorem goodF_make {n d : Int} (h : d ≠ 0) : goodF (fN n d) (fD n d) = fB n d := by
  obtain ⟨p, q, hp, hq, _, _, h1, h0, hs⟩ := fN_fD (n := n) h
  unfold goodF fB fN fD
  rw [hp, hq]
  by_cases hd : d < 0
  · have hq1 := hs.1 hd
    have e1 : decide (1 ≤ -q) = true := by simp; omega
    have e2 : decide (fg (-p) (-q) = 1) = true := by simp [fg_neg_left, fg_neg_right, h1]
    rw [if_pos hd, if_pos hd, e1, e2]
    cases decide (-q ≤ 1000000000) <;> cases decide (-1000000000 ≤ -p) <;> cases decide (-p ≤ 1000000000) <;> rfl
  · have hq1 : 0 < q := by
      rcases Int.lt_trichotomy q 0 with h | h | h
      · exact absurd (hs.2 h) hd
      · exact absurd h h0
      · exact h
    have e1 : decide (1 ≤ q) = true := by simp; omega
    have e2 : decide (fg p q = 1) = true := by simp [h1]
    rw [if_neg hd, if_neg hd, e1, e2]
    cases decide (q ≤ 1000000000) <;> cases decide (-1000000000 ≤ p) <;> cases decide (p ≤ 1000000000) <;> rfl
/-- a valid fraction is its own lowest terms -/
theorem goodF_bounds {n d : Int} (h : goodF n d = true) : 1 ≤ d ∧ d ≤ 1000000000 ∧ -1000000000 ≤ n ∧ n ≤ 1000000000 ∧ fg n d = 1 := by
  simpa [goodF] using h
end Go.Proofs.Ytmhofeljieicaaa
