/- Plain: a ratio has one pair of lowest terms. -/
import Derived.Test.YtmhofeljieicaaaFracNum
namespace Go.Proofs.Ytmhofeljieicaaa

theorem fg_uniq {P Q a b : Int} (h1 : fg P Q = 1) (h2 : fg a b = 1) (hb : 1 ≤ b) (hQ : 0 < Q) (he : P * b = a * Q) : P = a ∧ Q = b := by
  have hn : P.natAbs * b.natAbs = a.natAbs * Q.natAbs := by rw [← Int.natAbs_mul, he, Int.natAbs_mul]
  have c1 : Nat.Coprime Q.natAbs P.natAbs := by unfold Nat.Coprime; rw [Nat.gcd_comm]; exact h1
  have c2 : Nat.Coprime b.natAbs a.natAbs := by unfold Nat.Coprime; rw [Nat.gcd_comm]; exact h2
  have d1 : Q.natAbs ∣ b.natAbs := c1.dvd_of_dvd_mul_left (by rw [hn]; exact Nat.dvd_mul_left _ _)
  have d2 : b.natAbs ∣ Q.natAbs := c2.dvd_of_dvd_mul_left (by rw [← hn]; exact Nat.dvd_mul_left _ _)
  have hq : Q.natAbs = b.natAbs := Nat.dvd_antisymm d1 d2
  have hQb : Q = b := by omega
  subst hQb
  exact ⟨Int.eq_of_mul_eq_mul_right (by omega) he, rfl⟩
theorem fN_pos {n d : Int} (h : d ≠ 0) : 1 ≤ fD n d ∧ fg (fN n d) (fD n d) = 1 ∧ n * fD n d = fN n d * d := by
  obtain ⟨p, q, hp, hq, e1, e2, h1, h0, hs⟩ := fN_fD (n := n) h
  obtain ⟨g, hg⟩ : ∃ g : Int, ((fg n d : Nat) : Int) = g := ⟨_, rfl⟩
  unfold fN fD
  rw [hp, hq]
  rw [hg] at e1 e2
  by_cases hd : d < 0
  · have := hs.1 hd
    rw [if_pos hd, if_pos hd]
    refine ⟨by omega, by rw [fg_neg_left, fg_neg_right, h1], ?_⟩
    rw [e1, e2, Int.mul_neg, Int.neg_mul, Int.mul_right_comm, Int.mul_assoc p q g]
  · have : 0 < q := by
      rcases Int.lt_trichotomy q 0 with h | h | h
      · exact absurd (hs.2 h) hd
      · exact absurd h h0
      · exact h
    rw [if_neg hd, if_neg hd]
    refine ⟨by omega, h1, ?_⟩
    rw [e1, e2, Int.mul_right_comm, Int.mul_assoc p q g]
theorem fN_uniq {p q a b : Int} (hq : q ≠ 0) (hb : 1 ≤ b) (hab : fg a b = 1) (he : p * b = a * q) : fN p q = a ∧ fD p q = b := by
  obtain ⟨h1, h2, h3⟩ := fN_pos (n := p) hq
  refine fg_uniq h2 hab hb (by omega) ?_
  have h4 : (fN p q * b) * q = (a * fD p q) * q := by
    have e1 : fN p q * b * q = fN p q * q * b := Int.mul_right_comm _ _ _
    have e2 : a * fD p q * q = a * q * fD p q := Int.mul_right_comm _ _ _
    rw [e1, ← h3, e2, ← he, Int.mul_right_comm]
  exact Int.eq_of_mul_eq_mul_right hq h4
theorem f_congr {p q p' q' : Int} (hq : q ≠ 0) (hq' : q' ≠ 0) (he : p * q' = p' * q) : fN p q = fN p' q' ∧ fD p q = fD p' q' := by
  obtain ⟨h1, h2, h3⟩ := fN_pos (n := p') hq'
  refine fN_uniq hq h1 h2 ?_
  have h4 : (p * fD p' q') * q' = (fN p' q' * q) * q' := by
    have e1 : p * fD p' q' * q' = p * q' * fD p' q' := Int.mul_right_comm _ _ _
    have e2 : fN p' q' * q * q' = fN p' q' * q' * q := Int.mul_right_comm _ _ _
    rw [e1, he, e2, ← h3, Int.mul_right_comm]
  exact Int.eq_of_mul_eq_mul_right hq' h4
theorem fB_congr {p q p' q' : Int} (hq : q ≠ 0) (hq' : q' ≠ 0) (he : p * q' = p' * q) : fB p q = fB p' q' ∧ fVN p q = fVN p' q' ∧ fVD p q = fVD p' q' := by
  obtain ⟨h1, h2⟩ := f_congr hq hq' he
  have h3 : fB p q = fB p' q' := by unfold fB; rw [h1, h2]
  exact ⟨h3, by unfold fVN; rw [h3, h1], by unfold fVD; rw [h3, h2]⟩
theorem f_good {n d : Int} (h : goodF n d = true) : fN n d = n ∧ fD n d = d ∧ fB n d = true ∧ fVN n d = n ∧ fVD n d = d := by
  obtain ⟨h1, h2, h3, h4, h5⟩ := goodF_bounds h
  have hd : ¬ d < 0 := by omega
  have e1 : fN n d = n := by unfold fN; rw [if_neg hd, h5]; simp
  have e2 : fD n d = d := by unfold fD; rw [if_neg hd, h5]; simp
  have e3 : fB n d = true := by unfold fB; rw [e1, e2]; simp; omega
  exact ⟨e1, e2, e3, by unfold fVN; rw [if_pos e3, e1], by unfold fVD; rw [if_pos e3, e2]⟩
theorem f_val {n d : Int} (h : d ≠ 0) (hb : fB n d = true) : fVN n d = fN n d ∧ fVD n d = fD n d ∧ goodF (fVN n d) (fVD n d) = true := by
  have e1 : fVN n d = fN n d := by unfold fVN; rw [if_pos hb]
  have e2 : fVD n d = fD n d := by unfold fVD; rw [if_pos hb]
  exact ⟨e1, e2, by rw [e1, e2, goodF_make h, hb]⟩
theorem mul_bound {a b : Int} (ha : -1000000000 ≤ a ∧ a ≤ 1000000000) (hb : -1000000000 ≤ b ∧ b ≤ 1000000000) : -1000000000000000000 ≤ a * b ∧ a * b ≤ 1000000000000000000 := by
  have h1 : (a * b).natAbs ≤ 1000000000 * 1000000000 := by
    rw [Int.natAbs_mul]; exact Nat.mul_le_mul (by omega) (by omega)
  omega
end Go.Proofs.Ytmhofeljieicaaa
