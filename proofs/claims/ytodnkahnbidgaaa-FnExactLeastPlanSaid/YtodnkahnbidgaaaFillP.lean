/- A filling by sending from a source over rows and columns to a sink, plain. -/
import Derived.Test.YtodnkahnbidgaaaFill0
namespace Go.Proofs.Ytodnkahnbidgaaa
namespace Fm

theorem S_split (n m : Nat) (f : Nat → Int) : S (n + m + 2) f = S n f + S m (fun j => f (n + j)) + f (n + m) + f (n + m + 1) := by
  show S (n + m) f + f (n + m) + f (n + m + 1) = _
  rw [S_append]
/-- what is left of a network in which the matrix Lo lies: the source is n + m, the sink n + m + 1 -/
def fillD (t : Net) (a b : Nat) : Int :=
  if a < t.n + t.m then (if b < t.n + t.m then resD t.n t.Lo t.Hi t.Lo (fun _ _ => true) a b else if b = t.n + t.m + 1 ∧ t.n ≤ a then t.C (a - t.n) - S t.n (fun i => t.Lo i (a - t.n)) else 0)
  else if a = t.n + t.m ∧ b < t.n then t.R b - S t.m (t.Lo b) else 0
section
variable (t : Net) {i i' j j' : Nat}
theorem fd_rr (hi : i < t.n) (hi' : i' < t.n) : fillD t i i' = 0 := by
  unfold fillD resD; rw [if_pos (by omega), if_pos (by omega), if_pos hi, if_neg (by omega)]
theorem fd_rc (hi : i < t.n) (hj : j < t.m) : fillD t i (t.n + j) = t.Hi i j - t.Lo i j := by
  unfold fillD resD; rw [if_pos (by omega), if_pos (by omega), if_pos hi, if_pos (by omega)]; simp
theorem fd_cr (hi : i < t.n) (hj : j < t.m) : fillD t (t.n + j) i = 0 := by
  unfold fillD resD; rw [if_pos (by omega), if_pos (by omega), if_neg (by omega), if_pos hi]; simp
theorem fd_cc (hj : j < t.m) (hj' : j' < t.m) : fillD t (t.n + j) (t.n + j') = 0 := by
  unfold fillD resD; rw [if_pos (by omega), if_pos (by omega), if_neg (by omega), if_neg (by omega)]
theorem fd_rs (hi : i < t.n) : fillD t i (t.n + t.m) = 0 := by
  unfold fillD; rw [if_pos (by omega), if_neg (by omega), if_neg (by omega)]
theorem fd_rt (hi : i < t.n) : fillD t i (t.n + t.m + 1) = 0 := by
  unfold fillD; rw [if_pos (by omega), if_neg (by omega), if_neg (by omega)]
theorem fd_cs (hj : j < t.m) : fillD t (t.n + j) (t.n + t.m) = 0 := by
  unfold fillD; rw [if_pos (by omega), if_neg (by omega), if_neg (by omega)]
theorem fd_ct (hj : j < t.m) : fillD t (t.n + j) (t.n + t.m + 1) = t.C j - S t.n (fun i => t.Lo i j) := by
  unfold fillD; rw [if_pos (by omega), if_neg (by omega), if_pos (by omega)]; simp
theorem fd_sr (hi : i < t.n) : fillD t (t.n + t.m) i = t.R i - S t.m (t.Lo i) := by
  unfold fillD; rw [if_neg (by omega), if_pos (by omega)]
theorem fd_s (b : Nat) (hb : t.n ≤ b) : fillD t (t.n + t.m) b = 0 := by
  unfold fillD; rw [if_neg (by omega), if_neg (by omega)]
theorem fd_t (b : Nat) : fillD t (t.n + t.m + 1) b = 0 := by
  unfold fillD; rw [if_neg (by omega), if_neg (by omega)]
end

structure FillFacts (t : Net) (r : Nat → Nat → Int) : Prop where
  rc : ∀ i j, i < t.n → j < t.m → 0 ≤ r i (t.n + j) ∧ 0 ≤ r (t.n + j) i ∧ r i (t.n + j) + r (t.n + j) i = t.Hi i j - t.Lo i j
  row : ∀ i, i < t.n → S t.m (fun j => t.Hi i j - r i (t.n + j)) = t.R i - r (t.n + t.m) i ∧ 0 ≤ r (t.n + t.m) i
  col : ∀ j, j < t.m → S t.n (fun i => t.Hi i j - r i (t.n + j)) = t.C j - r (t.n + j) (t.n + t.m + 1) ∧ 0 ≤ r (t.n + j) (t.n + t.m + 1)
theorem Pushed.facts {t : Net} {lim sent : Int} {r : Nat → Nat → Int} (h : Pushed (t.n + t.m + 2) (fillD t) (t.n + t.m) (t.n + t.m + 1) lim sent r) : FillFacts t r := by
  have z : ∀ u v, u < t.n + t.m + 2 → v < t.n + t.m + 2 → fillD t u v + fillD t v u = 0 → r u v = 0 := fun u v hu hv e => by
    have h1 := h.nonneg u v hu hv
    have h2 := h.nonneg v u hv hu
    have h3 := h.pair u v hu hv
    omega
  refine ⟨fun i j hi hj => ⟨h.nonneg _ _ (by omega) (by omega), h.nonneg _ _ (by omega) (by omega), ?_⟩, fun i hi => ⟨?_, h.nonneg _ _ (by omega) (by omega)⟩, fun j hj => ⟨?_, h.nonneg _ _ (by omega) (by omega)⟩⟩
  · have := h.pair i (t.n + j) (by omega) (by omega)
    rw [fd_rc t hi hj, fd_cr t hi hj] at this; omega
  · have e := h.node i (by omega) (by omega) (by omega)
    rw [S_split, S_split] at e
    have a1 : S t.n (r i) = 0 := by
      rw [S_congr (g := fun _ => 0) (fun i' hi' => z i i' (by omega) (by omega) (by rw [fd_rr t hi hi', fd_rr t hi' hi]; rfl)), S_zero]
    have a2 : S t.n (fillD t i) = 0 := by
      rw [S_congr (g := fun _ => 0) (fun i' hi' => fd_rr t hi hi'), S_zero]
    have a3 : S t.m (fun j => fillD t i (t.n + j)) = S t.m (fun j => t.Hi i j - t.Lo i j) := S_congr (fun j hj => fd_rc t hi hj)
    have a4 := z i (t.n + t.m + 1) (by omega) (by omega) (by rw [fd_rt t hi, fd_t]; rfl)
    have a5 := h.pair i (t.n + t.m) (by omega) (by omega)
    rw [fd_rs t hi, fd_sr t hi] at a5
    rw [a1, a2, a3, a4, fd_rs t hi, fd_rt t hi, S_sub] at e
    rw [S_sub]
    omega
  · have e := h.node (t.n + j) (by omega) (by omega) (by omega)
    rw [S_split, S_split] at e
    have a1 : S t.m (fun j' => r (t.n + j) (t.n + j')) = 0 := by
      rw [S_congr (g := fun _ => 0) (fun j' hj' => z (t.n + j) (t.n + j') (by omega) (by omega) (by rw [fd_cc t hj hj', fd_cc t hj' hj]; rfl)), S_zero]
    have a2 : S t.m (fun j' => fillD t (t.n + j) (t.n + j')) = 0 := by
      rw [S_congr (g := fun _ => 0) (fun j' hj' => fd_cc t hj hj'), S_zero]
    have a3 : S t.n (fillD t (t.n + j)) = 0 := by
      rw [S_congr (g := fun _ => 0) (fun i hi => fd_cr t hi hj), S_zero]
    have a4 := z (t.n + j) (t.n + t.m) (by omega) (by omega) (by rw [fd_cs t hj, fd_s t _ (by omega)]; rfl)
    have a6 : S t.n (fun i => t.Hi i j - r i (t.n + j)) = S t.n (fun i => t.Lo i j + r (t.n + j) i) := S_congr (fun i hi => by
      have := h.pair i (t.n + j) (by omega) (by omega)
      rw [fd_rc t hi hj, fd_cr t hi hj] at this; omega)
    rw [a1, a2, a3, a4, fd_cs t hj, fd_ct t hj] at e
    rw [a6, S_add]
    omega
/-- the matrix that is read off is a greatest filling -/
theorem Pushed.cert {t : Net} {sent : Int} {r : Nat → Nat → Int} (hlo : ∀ i j, i < t.n → j < t.m → 0 ≤ t.Lo i j) (h : Pushed (t.n + t.m + 2) (fillD t) (t.n + t.m) (t.n + t.m + 1) (S t.n t.R) sent r) :
    ∃ A B, Cert t (fun i j => t.Hi i j - r i (t.n + j)) A B := by
  have F := h.facts
  have hf : Fits t (fun i j => t.Hi i j - r i (t.n + j)) := ⟨fun i j hi hj => by have := F.rc i j hi hj; omega, fun i j hi hj => by have := F.rc i j hi hj; omega,
    fun i hi => by have := F.row i hi; omega, fun j hj => by have := F.col j hj; omega⟩
  rcases h.done with hd | ⟨A, hs, ht, hA⟩
  · refine ⟨fun _ => false, fun _ => false, hf, fun i hi _ => ?_, fun j hj e => (by cases e), fun i j _ _ e => (by cases e), fun i j _ _ _ e => (by cases e)⟩
    have z : ∀ u v, u < t.n + t.m + 2 → v < t.n + t.m + 2 → fillD t u v + fillD t v u = 0 → r u v = 0 := fun u v hu hv e => by
      have h1 := h.nonneg u v hu hv
      have h2 := h.nonneg v u hv hu
      have h3 := h.pair u v hu hv
      omega
    have e := h.src
    rw [S_split, S_split] at e
    have a1 : S t.m (fun j => r (t.n + t.m) (t.n + j)) = 0 := by
      rw [S_congr (g := fun _ => 0) (fun j hj => z (t.n + t.m) (t.n + j) (by omega) (by omega) (by rw [fd_s t _ (by omega), fd_cs t hj]; rfl)), S_zero]
    have a2 : S t.m (fun j => fillD t (t.n + t.m) (t.n + j)) = 0 := by
      rw [S_congr (g := fun _ => 0) (fun j hj => fd_s t _ (by omega)), S_zero]
    have a3 : S t.n (fillD t (t.n + t.m)) = S t.n (fun i => t.R i - S t.m (t.Lo i)) := S_congr (fun i hi => fd_sr t hi)
    have a4 := z (t.n + t.m) (t.n + t.m) (by omega) (by omega) (by rw [fd_s t _ (by omega)]; rfl)
    have a5 := z (t.n + t.m) (t.n + t.m + 1) (by omega) (by omega) (by rw [fd_s t _ (by omega), fd_t]; rfl)
    rw [a1, a2, a3, a4, a5, fd_s t _ (by omega), fd_s t _ (by omega), S_sub] at e
    have a6 : 0 ≤ S t.n (fun i => S t.m (t.Lo i)) := S2_nonneg hlo
    have a7 : 0 ≤ S t.n (r (t.n + t.m)) := S_nonneg (fun i hi => (F.row i hi).2)
    have a8 := S_eq_zero (fun i (hi : i < t.n) => (F.row i hi).2) (by omega) i hi
    have := (F.row i hi).1
    rw [a8] at this
    rw [this]; omega
  · refine ⟨A, fun j => A (t.n + j), hf, fun i hi e => ?_, fun j hj e => ?_, fun i j hi hj e1 e2 => ?_, fun i j hi hj e1 e2 => ?_⟩
    · have a8 := hA (t.n + t.m) i (by omega) (by omega) hs e
      have := (F.row i hi).1
      rw [a8] at this; rw [this]; omega
    · have a8 := hA (t.n + j) (t.n + t.m + 1) (by omega) (by omega) e ht
      have := (F.col j hj).1
      rw [a8] at this; rw [this]; omega
    · have a8 := hA i (t.n + j) (by omega) (by omega) e1 e2
      show t.Hi i j - r i (t.n + j) = _
      rw [a8]; omega
    · have a8 := hA (t.n + j) i (by omega) (by omega) e2 e1
      have := F.rc i j hi hj
      show t.Hi i j - r i (t.n + j) = _
      omega
end Fm
end Go.Proofs.Ytodnkahnbidgaaa
