/- The cells of one table out of those of another: plain. No program in sight. -/
import Derived.Test.YtolmmhdeebgglaaTf
namespace Go.Proofs.Ytolmmhdeebgglaa
open Go.RowKit

/-- the place of a member -/
def posI (xs : List Int) (n : Int) : Nat := xs.findIdx fun x => decide (x = n)
theorem posI_at {xs : List Int} {n : Int} (h : n ∈ xs) : posI xs n < xs.length ∧ ix xs (posI xs n) = n ∧ ∀ j, j < posI xs n → ix xs j ≠ n := by
  have h1 : posI xs n < xs.length := List.findIdx_lt_length_of_exists ⟨n, h, by simp⟩
  refine ⟨h1, ?_, fun j hj => ?_⟩
  · rw [ix_eq h1]
    have h2 : (fun x => decide (x = n)) (xs[posI xs n]) = true := List.findIdx_getElem (p := fun x => decide (x = n)) (w := h1)
    simpa using h2
  · have h2 := List.not_of_lt_findIdx (p := fun x => decide (x = n)) (xs := xs) (i := j) hj
    rw [ix_eq (by omega)]
    simpa using h2
/-- what is left of an index when the last d variables have been taken off -/
def qd (l : List Vr) (i : Int) : Nat → Int
  | 0 => i
  | d + 1 => qd l i d / (vrAt l (l.length - 1 - d)).lev
def valAt (l : List Vr) (i : Int) (k : Nat) : Int := qd l i (l.length - 1 - k) % (vrAt l k).lev
/-- the values of a cell -/
def vlL (l : List Vr) (i : Int) : List Int := (List.range l.length).map (valAt l i)
theorem qd_bound {l : List Vr} (h : LevP l) {i : Int} (hi : 0 ≤ i) : ∀ d, d ≤ l.length → 0 ≤ qd l i d ∧ qd l i d ≤ i := by
  intro d
  induction d with
  | zero => intro _; simp [qd, hi]
  | succ d ih =>
    intro hd
    have h1 := ih (by omega)
    have h2 := h.2 (l.length - 1 - d) (by omega)
    simp only [qd]
    refine ⟨Int.ediv_nonneg h1.1 (by omega), ?_⟩
    have := Int.ediv_le_self (vrAt l (l.length - 1 - d)).lev h1.1
    omega
theorem valAt_bound {l : List Vr} (h : LevP l) (i : Int) {k : Nat} (hk : k < l.length) : 0 ≤ valAt l i k ∧ valAt l i k < (vrAt l k).lev := by
  have h2 := h.2 k hk
  exact ⟨Int.emod_nonneg _ (by omega), Int.emod_lt_of_pos _ (by omega)⟩
theorem vlL_len (l : List Vr) (i : Int) : (vlL l i).length = l.length := by simp [vlL]
theorem ix_vlL {l : List Vr} {i : Int} {k : Nat} (hk : k < l.length) : ix (vlL l i) k = valAt l i k := by simp [vlL, ix, List.getD, hk]
/-- values are right for variables -/
def FitV (l : List Vr) (xs : List Int) : Prop := xs.length = l.length ∧ ∀ k, k < l.length → 0 ≤ ix xs k ∧ ix xs k < (vrAt l k).lev
theorem vlL_fit {l : List Vr} (h : LevP l) (i : Int) : FitV l (vlL l i) := ⟨vlL_len l i, fun k hk => by rw [ix_vlL hk]; exact valAt_bound h i hk⟩
/-- the index of values -/
def idxTo (l : List Vr) (xs : List Int) : Nat → Int
  | 0 => 0
  | n + 1 => idxTo l xs n * (vrAt l n).lev + ix xs n
def idxL (l : List Vr) (xs : List Int) : Int := idxTo l xs l.length
theorem idxTo_bound {l : List Vr} {xs : List Int} (h : LevP l) (hf : FitV l xs) : ∀ n, n ≤ l.length → 0 ≤ idxTo l xs n ∧ idxTo l xs n + 1 ≤ cntTo l n := by
  intro n
  induction n with
  | zero => intro _; simp [idxTo, cntTo]
  | succ n ih =>
    intro hn
    have h1 := ih (by omega)
    have h2 := h.2 n (by omega)
    have h3 := hf.2 n (by omega)
    simp only [idxTo, cntTo]
    have m1 : 0 ≤ idxTo l xs n * (vrAt l n).lev := Int.mul_nonneg h1.1 (by omega)
    have m2 : (idxTo l xs n + 1) * (vrAt l n).lev ≤ cntTo l n * (vrAt l n).lev := Int.mul_le_mul_of_nonneg_right h1.2 (by omega)
    rw [Int.add_mul, Int.one_mul] at m2
    omega
def pickL (xs vars : List Int) : List Int := vars.map fun i => ix xs i.toNat
theorem pickL_take {xs vars : List Int} {k : Nat} (hk : k < vars.length) : pickL xs (vars.take (k + 1)) = pickL xs (vars.take k) ++ [ix xs (ix vars k).toNat] := by
  simp [pickL, take_succ_ix hk]

/-- the value of a variable among the first m -/
def lookL (vars vals : List Int) (v : Int) : Nat → Int
  | 0 => 0
  | m + 1 => if ix vars m = v then ix vals m else lookL vars vals v m
theorem lookL_is {vars vals : List Int} {v : Int} {n : Int} (hr : Rising n vars) {k : Nat} (hv : ix vars k = v) : ∀ m, m ≤ vars.length → k < m → lookL vars vals v m = ix vals k := by
  intro m
  induction m with
  | zero => intro _ h; omega
  | succ m ih =>
    intro hm hk
    simp only [lookL]
    by_cases e : k = m
    · subst e; rw [if_pos hv]
    · have h1 := hr.lt (j := k) (k := m) (by omega) (by omega)
      rw [if_neg (by omega)]
      exact ih (by omega) (by omega)
theorem lookL_bound {vars vals : List Int} (v : Int) : ∀ m, (∀ k, k < m → 0 ≤ ix vals k ∧ ix vals k < 8) → 0 ≤ lookL vars vals v m ∧ lookL vars vals v m < 8 := by
  intro m
  induction m with
  | zero => intro _; simp [lookL]
  | succ m ih =>
    intro h
    simp only [lookL]
    split
    · exact h m (by omega)
    · exact ih (fun k hk => h k (by omega))
def allL (n : Nat) (vars vals : List Int) (m : Nat) : List Int := (List.range n).map fun (j : Nat) => lookL vars vals (j : Int) m
theorem allL_len (n : Nat) (vars vals : List Int) (m : Nat) : (allL n vars vals m).length = n := by simp [allL]
theorem ix_allL {n : Nat} {vars vals : List Int} {m j : Nat} (hj : j < n) : ix (allL n vars vals m) j = lookL vars vals (j : Int) m := by simp [allL, ix, List.getD, hj]
def ownL (tv vars vals : List Int) (m : Nat) : List Int := tv.map fun v => lookL vars vals v m
theorem ownL_len (tv vars vals : List Int) (m : Nat) : (ownL tv vars vals m).length = tv.length := by simp [ownL]
theorem ix_ownL {tv vars vals : List Int} {m j : Nat} (hj : j < tv.length) : ix (ownL tv vars vals m) j = lookL vars vals (ix tv j) m := by simp [ownL, ix, List.getD, hj]
theorem pick_all {n : Nat} {tv vars vals : List Int} {m : Nat} (h : Rising (n : Int) tv) : pickL (allL n vars vals m) tv = ownL tv vars vals m := by
  apply List.map_congr_left
  intro v hv
  obtain ⟨k, hk, rfl⟩ := List.getElem_of_mem hv
  have h1 := (h k hk).1
  rw [ix_eq hk] at h1
  rw [ix_allL (by omega)]
  congr 1
  omega
/-- how often a cell counts -/
def tmTo (t u : Ta) (vals : List Int) : Nat → Int
  | 0 => 1
  | m + 1 => if t.sum = ix u.vars m ∧ u.sum = -1 then ix vals m else tmTo t u vals m
theorem tm_same {t u : Ta} {vals : List Int} {n : Int} (hr : Rising n u.vars) (h : t.sum = u.sum) : ∀ m, m ≤ u.vars.length → tmTo t u vals m = 1 := by
  intro m
  induction m with
  | zero => intro _; rfl
  | succ m ih =>
    intro hm
    have h1 := (hr m (by omega)).1
    simp only [tmTo]
    rw [if_neg (by omega)]
    exact ih (by omega)
theorem tm_look {t u : Ta} {vals : List Int} (hu : u.sum = -1) : ∀ m, (∃ j, j < m ∧ ix u.vars j = t.sum) → tmTo t u vals m = lookL u.vars vals t.sum m := by
  intro m
  induction m with
  | zero => rintro ⟨j, hj, _⟩; omega
  | succ m ih =>
    rintro ⟨j, hj, e⟩
    simp only [tmTo, lookL]
    by_cases h : ix u.vars m = t.sum
    · rw [if_pos ⟨h.symm, hu⟩, if_pos h]
    · rw [if_neg (fun h2 => h h2.1.symm), if_neg h]
      refine ih ⟨j, ?_, e⟩
      rcases Nat.lt_or_ge j m with h2 | h2
      · exact h2
      · have : j = m := by omega
        subst this; exact absurd e h
theorem tm_is {t u : Ta} {vals : List Int} {n : Int} (hr : Rising n u.vars) (h : SumP t u) : tmTo t u vals u.vars.length = if t.sum = u.sum then 1 else lookL u.vars vals t.sum u.vars.length := by
  by_cases e : t.sum = u.sum
  · rw [if_pos e]; exact tm_same hr e _ (Nat.le_refl _)
  · rw [if_neg e]
    rcases h with h | ⟨h1, h2⟩
    · exact absurd h e
    · refine tm_look h1 _ ?_
      obtain ⟨x, hx, hn⟩ := List.any_eq_true.1 h2
      obtain ⟨j, hj, rfl⟩ := List.getElem_of_mem hx
      exact ⟨j, hj, by rw [ix_eq hj]; simpa using hn⟩
theorem tm_bound {t u : Ta} {vals : List Int} : ∀ m, (∀ k, k < m → 0 ≤ ix vals k ∧ ix vals k < 8) → 0 ≤ tmTo t u vals m ∧ tmTo t u vals m < 8 := by
  intro m
  induction m with
  | zero => intro _; simp [tmTo]
  | succ m ih =>
    intro h
    simp only [tmTo]
    split
    · exact h m (by omega)
    · exact ih (fun k hk => h k (by omega))
/-- a value is among those of a set -/
def bitV (x v : Int) : Int := x / 2 ^ v.toNat % 2
theorem bitV_01 (x v : Int) : bitV x v = 0 ∨ bitV x v = 1 := by unfold bitV; omega
/-- the first m values are among those that are counted -/
def inTo (s : List Vr) (t u : Ta) (vals : List Int) : Nat → Bool
  | 0 => true
  | m + 1 => inTo s t u vals m && decide (bitV (setV s t (ix u.vars m).toNat) (ix vals m) = 1)
theorem inTo_stop {s : List Vr} {t u : Ta} {vals : List Int} {m : Nat} : ∀ n, m ≤ n → inTo s t u vals m = false → inTo s t u vals n = false := by
  intro n
  induction n with
  | zero => intro h h2; have : m = 0 := by omega
            subst this; exact h2
  | succ n ih =>
    intro h h2
    by_cases e : m = n + 1
    · subst e; exact h2
    · simp only [inTo]; rw [ih (by omega) h2]; rfl

/-! ### One cell -/
def areaI (par : List Int) (s : List Vr) (u : Ta) (i : Nat) : Int := ix (levL par u.level) ((i : Int) / cntL (partL s u.vars)).toNat
def valsI (s : List Vr) (u : Ta) (i : Nat) : List Int := vlL (partL s u.vars) ((i : Int) % cntL (partL s u.vars))
def upI (par : List Int) (s : List Vr) (t u : Ta) (i : Nat) : Int := ancL par (areaI par s u i).toNat t.level
def placeI (par : List Int) (s : List Vr) (t u : Ta) (i : Nat) : Nat := posI (levL par t.level) (upI par s t u i)
def ownI (s : List Vr) (t u : Ta) (i : Nat) : List Int := ownL t.vars u.vars (valsI s u i) u.vars.length
def keyI (par : List Int) (s : List Vr) (t u : Ta) (i : Nat) : Int := (placeI par s t u i : Int) * cntL (partL s t.vars) + idxL (partL s t.vars) (ownI s t u i)
def inI (s : List Vr) (t u : Ta) (i : Nat) : Bool := inTo s t u (valsI s u i) u.vars.length
def timesI (s : List Vr) (t u : Ta) (i : Nat) : Int := tmTo t u (valsI s u i) u.vars.length
/-- the cells of t, the first i cells of u being counted -/
def dvTo (par : List Int) (s : List Vr) (t u : Ta) (cells : List Int) : Nat → List Int
  | 0 => List.replicate (uCnt par s t).toNat 0
  | i + 1 => if inI s t u i = true then (dvTo par s t u cells i).set (keyI par s t u i).toNat (ix (dvTo par s t u cells i) (keyI par s t u i).toNat + ix cells i * timesI s t u i) else dvTo par s t u cells i
def SmallC (n : Int) (cells : List Int) : Prop := (cells.length : Int) = n ∧ ∀ k, k < cells.length → -1000000 ≤ ix cells k ∧ ix cells k ≤ 1000000
structure DvOk (par : List Int) (s : List Vr) (t u : Ta) (cells : List Int) : Prop where
  geo : GeoP par
  sch : SchP s
  ht : TabP par s t
  hu : TabP par s u
  fol : FolP par s t u
  small : SmallC (uCnt par s u) cells
structure CellOk (par : List Int) (s : List Vr) (t u : Ta) (i : Nat) : Prop where
  q0 : 0 ≤ (i : Int) / cntL (partL s u.vars) ∧ (i : Int) / cntL (partL s u.vars) < (levL par u.level).length
  r0 : 0 ≤ (i : Int) % cntL (partL s u.vars) ∧ (i : Int) % cntL (partL s u.vars) < cntL (partL s u.vars)
  area : ∃ a : Nat, areaI par s u i = a ∧ a < par.length ∧ (dep par a : Int) = u.level ∧ ∃ b : Nat, ancL par a t.level = b ∧ b < par.length ∧ (dep par b : Int) = t.level ∧ (b : Int) ∈ levL par t.level
  place : placeI par s t u i < (levL par t.level).length ∧ ix (levL par t.level) (placeI par s t u i) = upI par s t u i ∧ ∀ j, j < placeI par s t u i → ix (levL par t.level) j ≠ upI par s t u i
  fitU : FitV (partL s u.vars) (valsI s u i)
  fitT : FitV (partL s t.vars) (ownI s t u i)
  key : 0 ≤ keyI par s t u i ∧ keyI par s t u i < uCnt par s t
  v8 : ∀ k, k < u.vars.length → 0 ≤ ix (valsI s u i) k ∧ ix (valsI s u i) k < 8
  vl : (valsI s u i).length = u.vars.length
theorem DvOk.cell {par : List Int} {s : List Vr} {t u : Ta} {cells : List Int} (h : DvOk par s t u cells) {i : Nat} (hi : i < cells.length) : CellOk par s t u i := by
  obtain ⟨_, hcu, _, _, _⟩ := uCnt_bound h.geo h.sch h.hu.1
  obtain ⟨_, hct, hct2, _, _⟩ := uCnt_bound h.geo h.sch h.ht.1
  have hlu := partL_lev h.sch h.hu.1
  have hlt := partL_lev h.sch h.ht.1
  have hn := h.small.1
  have hiu : (i : Int) < ((levL par u.level).length : Int) * cntL (partL s u.vars) := by have : uCnt par s u = ((levL par u.level).length : Int) * cntL (partL s u.vars) := rfl; omega
  have hq : 0 ≤ (i : Int) / cntL (partL s u.vars) ∧ (i : Int) / cntL (partL s u.vars) < (levL par u.level).length :=
    ⟨Int.ediv_nonneg (by omega) (by omega), Int.ediv_lt_of_lt_mul (by omega) hiu⟩
  have hr : 0 ≤ (i : Int) % cntL (partL s u.vars) ∧ (i : Int) % cntL (partL s u.vars) < cntL (partL s u.vars) := ⟨Int.emod_nonneg _ (by omega), Int.emod_lt_of_pos _ (by omega)⟩
  have hfu : FitV (partL s u.vars) (valsI s u i) := vlL_fit hlu _
  have hvl : (valsI s u i).length = u.vars.length := by rw [hfu.1, partL_len]
  have hv8 : ∀ k, k < u.vars.length → 0 ≤ ix (valsI s u i) k ∧ ix (valsI s u i) k < 8 := fun k hk => by
    have h1 := hfu.2 k (by rw [partL_len]; exact hk)
    have h2 := hlu.2 k (by rw [partL_len]; exact hk)
    omega
  have hmem : areaI par s u i ∈ levL par u.level := ix_mem (by omega)
  obtain ⟨a, ea, hal, had⟩ := (levTo_mem par.length _).1 hmem
  have h0 := lev_nonneg h.ht
  have hle := h.fol.1.1
  obtain ⟨b, eb, hbl, hbd⟩ := ancL_dep h.geo h0 a hal (by omega)
  have hbm : (b : Int) ∈ levL par t.level := (levTo_mem par.length _).2 ⟨b, rfl, hbl, hbd⟩
  have hup : upI par s t u i = b := by unfold upI; rw [ea]; exact eb
  have hpl := posI_at (xs := levL par t.level) (n := upI par s t u i) (by rw [hup]; exact hbm)
  have hft : FitV (partL s t.vars) (ownI s t u i) := by
    refine ⟨by rw [partL_len]; exact ownL_len _ _ _ _, fun k hk => ?_⟩
    rw [partL_len] at hk
    obtain ⟨j, hj, e⟩ : ∃ j, j < u.vars.length ∧ ix u.vars j = ix t.vars k := by
      obtain ⟨x, hx, hn⟩ := List.any_eq_true.1 (h.fol.2.2.1 k hk)
      obtain ⟨j, hj, rfl⟩ := List.getElem_of_mem hx
      exact ⟨j, hj, by rw [ix_eq hj]; simpa using hn⟩
    have h1 := hfu.2 j (by rw [partL_len]; exact hj)
    unfold ownI
    rw [ix_ownL hk, lookL_is h.hu.1 e _ (Nat.le_refl _) hj]
    rw [partL_at hj, e] at h1
    rw [partL_at hk]
    exact h1
  have hid := idxTo_bound hlt hft _ (Nat.le_refl _)
  refine ⟨hq, hr, ⟨a, ea, hal, had, b, eb, hbl, hbd, hbm⟩, hpl, hfu, hft, ?_, hv8, hvl⟩
  have hp : (placeI par s t u i : Int) + 1 ≤ ((levL par t.level).length : Int) := by have := hpl.1; unfold placeI; omega
  have m1 : ((placeI par s t u i : Int) + 1) * cntL (partL s t.vars) ≤ ((levL par t.level).length : Int) * cntL (partL s t.vars) := Int.mul_le_mul_of_nonneg_right hp (by omega)
  have m2 : 0 ≤ (placeI par s t u i : Int) * cntL (partL s t.vars) := Int.mul_nonneg (by omega) (by omega)
  rw [Int.add_mul, Int.one_mul] at m1
  have e1 : uCnt par s t = ((levL par t.level).length : Int) * cntL (partL s t.vars) := rfl
  unfold keyI idxL
  unfold cntL at *
  rw [e1]
  constructor
  · omega
  · omega
theorem dv_len {par : List Int} {s : List Vr} {t u : Ta} {cells : List Int} : ∀ i, (dvTo par s t u cells i).length = (uCnt par s t).toNat := by
  intro i
  induction i with
  | zero => simp [dvTo]
  | succ i ih => simp only [dvTo]; split <;> simp [ih]
theorem dv_bound {par : List Int} {s : List Vr} {t u : Ta} {cells : List Int} (h : DvOk par s t u cells) : ∀ i, i ≤ cells.length → ∀ j, j < (uCnt par s t).toNat → -8000000 * (i : Int) ≤ ix (dvTo par s t u cells i) j ∧ ix (dvTo par s t u cells i) j ≤ 8000000 * (i : Int) := by
  intro i
  induction i with
  | zero => intro _ j hj; simp [dvTo, ix, List.getD, hj]
  | succ i ih =>
    intro hi j hj
    have h1 := ih (by omega)
    have hc := h.cell (i := i) (by omega)
    have h2 := h.small.2 i (by omega)
    have h3 := tm_bound (t := t) (u := u) (vals := valsI s u i) _ hc.v8
    have h4 : -8000000 ≤ ix cells i * timesI s t u i ∧ ix cells i * timesI s t u i ≤ 8000000 := by
      have m1 : ix cells i * timesI s t u i ≤ 1000000 * timesI s t u i := Int.mul_le_mul_of_nonneg_right h2.2 h3.1
      have m2 : -1000000 * timesI s t u i ≤ ix cells i * timesI s t u i := Int.mul_le_mul_of_nonneg_right h2.1 h3.1
      unfold timesI at *
      omega
    simp only [dvTo]
    split
    · rw [ix_set]
      split
      · have := h1 (keyI par s t u i).toNat (by have := hc.key; omega)
        push_cast
        omega
      · have := h1 j hj
        push_cast
        omega
    · have := h1 j hj
      push_cast
      omega
theorem DvOk.many {par : List Int} {s : List Vr} {t u : Ta} {cells : List Int} (h : DvOk par s t u cells) : cells.length ≤ 600 := by
  have h1 := h.small.1
  have h2 := h.hu.2.2.2.2
  omega

theorem levTo_lt {par : List Int} {lev : Int} : ∀ n j k, j < k → k < (levTo par lev n).length → ix (levTo par lev n) j < ix (levTo par lev n) k := by
  intro n
  induction n with
  | zero => intro j k _ hk; simp [levTo] at hk
  | succ n ih =>
    intro j k hjk hk
    unfold levTo at hk ⊢
    by_cases e : (dep par n : Int) = lev
    · rw [if_pos e] at hk ⊢
      rw [List.length_append, List.length_singleton] at hk
      by_cases e2 : k = (levTo par lev n).length
      · subst e2
        rw [ix_append_left hjk]
        have h1 : ix (levTo par lev n ++ [(n : Int)]) (levTo par lev n).length = n := by simp [ix, List.getD]
        rw [h1]
        obtain ⟨i, a, b, _⟩ := (levTo_mem n _).1 (ix_mem (xs := levTo par lev n) hjk)
        rw [a]; omega
      · rw [ix_append_left (by omega), ix_append_left (by omega)]
        exact ih j k hjk (by omega)
    · rw [if_neg e] at hk ⊢
      exact ih j k hjk hk
theorem levL_lt {par : List Int} {lev : Int} {j k : Nat} (hjk : j < k) (hk : k < (levL par lev).length) : ix (levL par lev) j < ix (levL par lev) k := levTo_lt _ j k hjk hk
end Go.Proofs.Ytolmmhdeebgglaa
