/- Plain: sums and products are undone; the order of a sum. -/
import Derived.Test.YtmhofeljieicaaaDrwO
namespace Go.Proofs.Ytmhofeljieicaaa

theorem f_is {p q a b : Int} (hq : q ≠ 0) (hg : goodF a b = true) (he : p * b = a * q) : fB p q = true ∧ fVN p q = a ∧ fVD p q = b := by
  have hb := (goodF_bounds hg).1
  obtain ⟨h1, h2, h3⟩ := fB_congr (p' := a) (q' := b) hq (by omega) he
  obtain ⟨_, _, g3, g4, g5⟩ := f_good hg
  exact ⟨by rw [h1, g3], by rw [h2, g4], by rw [h3, g5]⟩
theorem dv_undone {a b c d : Int} (h : dvB a b c d = true) : goodF a b = true ∧ goodF c d = true ∧ goodF (dvN a b c d) (dvD a b c d) = true ∧
    fB (dvN a b c d * c) (dvD a b c d * d) = true ∧ fVN (dvN a b c d * c) (dvD a b c d * d) = a ∧ fVD (dvN a b c d * c) (dvD a b c d * d) = b := by
  obtain ⟨h1, h2⟩ := Bool.and_eq_true_iff.1 (show (dvO a b c d && fB (a * d) (b * c)) = true from h)
  obtain ⟨h3, h4⟩ := Bool.and_eq_true_iff.1 (show (goodF a b && (goodF c d && decide (c ≠ 0))) = true from h1)
  obtain ⟨h5, h6⟩ := Bool.and_eq_true_iff.1 h4
  have h0 : c ≠ 0 := of_decide_eq_true h6
  have hb := (goodF_bounds h3).1
  have hd := (goodF_bounds h5).1
  have hq : b * c ≠ 0 := Int.mul_ne_zero (by omega) h0
  obtain ⟨e1, e2, e3⟩ := f_val hq h2
  obtain ⟨p1, p2, p3⟩ := fN_pos (n := a * d) hq
  have eN : dvN a b c d = fN (a * d) (b * c) := by unfold dvN; rw [if_pos h1, e1]
  have eD : dvD a b c d = fD (a * d) (b * c) := by unfold dvD; rw [if_pos h1, e2]
  rw [e1, e2] at e3
  rw [eN, eD]
  generalize fN (a * d) (b * c) = y at *
  generalize fD (a * d) (b * c) = z at *
  refine ⟨h3, h5, e3, f_is (Int.mul_ne_zero (by omega) (by omega)) h3 ?_⟩
  have : y * c * b = y * (b * c) := by rw [Int.mul_assoc, Int.mul_comm c b]
  rw [this, ← p3, Int.mul_assoc, Int.mul_comm d z]
theorem sgn_mul {k x : Int} (hk : 0 < k) : sgn (k * x) = sgn x := by
  unfold sgn
  rcases Int.lt_trichotomy x 0 with h | h | h
  · have := Int.mul_neg_of_pos_of_neg hk h
    rw [if_pos this, if_pos h]
  · subst h; simp
  · have := Int.mul_pos hk h
    rw [if_neg (by omega), if_pos this, if_neg (by omega), if_pos h]
theorem ad_undone {a b c d : Int} (h : adB a b c d = true) : goodF a b = true ∧ goodF c d = true ∧ goodF (adN a b c d) (adD a b c d) = true ∧
    fB (adN a b c d * d - c * adD a b c d) (adD a b c d * d) = true ∧ fVN (adN a b c d * d - c * adD a b c d) (adD a b c d * d) = a ∧ fVD (adN a b c d * d - c * adD a b c d) (adD a b c d * d) = b ∧
    sgn (adN a b c d * b - a * adD a b c d) = sgn (c * 1 - 0 * d) := by
  obtain ⟨h1, h2⟩ := Bool.and_eq_true_iff.1 (show (adO a b c d && fB (a * d + c * b) (b * d)) = true from h)
  obtain ⟨h3, h5⟩ := Bool.and_eq_true_iff.1 (show (goodF a b && goodF c d) = true from h1)
  have hb := (goodF_bounds h3).1
  have hd := (goodF_bounds h5).1
  have hq : b * d ≠ 0 := Int.mul_ne_zero (by omega) (by omega)
  obtain ⟨e1, e2, e3⟩ := f_val hq h2
  obtain ⟨p1, p2, p3⟩ := fN_pos (n := a * d + c * b) hq
  have eN : adN a b c d = fN (a * d + c * b) (b * d) := by unfold adN; rw [if_pos h1, e1]
  have eD : adD a b c d = fD (a * d + c * b) (b * d) := by unfold adD; rw [if_pos h1, e2]
  rw [e1, e2] at e3
  rw [eN, eD]
  generalize fN (a * d + c * b) (b * d) = y at *
  generalize fD (a * d + c * b) (b * d) = z at *
  have k1 : y * (b * d) = a * d * z + c * b * z := by rw [← p3, Int.add_mul]
  have hA : (y * d - c * z) * b = a * (z * d) := by
    have e1 : y * d * b = y * (b * d) := by rw [Int.mul_assoc, Int.mul_comm d b]
    have e2 : c * z * b = c * b * z := Int.mul_right_comm _ _ _
    have e3 : a * (z * d) = a * d * z := by rw [Int.mul_comm z d, Int.mul_assoc]
    rw [Int.sub_mul, e1, e2, e3, k1]
    omega
  obtain ⟨r1, r2, r3⟩ := f_is (p := y * d - c * z) (q := z * d) (Int.mul_ne_zero (by omega) (by omega)) h3 hA
  refine ⟨h3, h5, e3, r1, r2, r3, ?_⟩
  have hz : 0 < b * z := Int.mul_pos (by omega) (by omega)
  have e4 : d * (y * b - a * z) = (b * z) * c := by
    have e1 : d * (y * b) = y * (b * d) := by rw [Int.mul_comm d, Int.mul_assoc]
    have e2 : d * (a * z) = a * d * z := by rw [← Int.mul_assoc, Int.mul_comm d a]
    have e3 : b * z * c = c * b * z := by rw [Int.mul_comm, Int.mul_assoc]
    rw [Int.mul_sub, e1, e2, e3, k1]
    omega
  rw [← sgn_mul (k := d) (by omega), e4, sgn_mul hz, Int.mul_one, Int.zero_mul, Int.sub_zero]
end Go.Proofs.Ytmhofeljieicaaa
