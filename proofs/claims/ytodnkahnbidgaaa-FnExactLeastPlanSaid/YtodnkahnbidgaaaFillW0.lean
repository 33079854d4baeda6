/- What the program's fill is stated with. -/
import Derived.Test.YtodnkahnbidgaaaFillP
import Derived.Test.YtodnkahnbidgaaaRestore
import Derived.Laws.CopyOwn
namespace Go.Proofs.Ytodnkahnbidgaaa
open Go.RowKit
open Fm

def NetT (T : Tr) : Net := ⟨T.rows.length, T.cols.length, ix T.rows, ix T.cols, elOf T.lo, elOf T.hi⟩
theorem sum_take_S (xs : List Int) : ∀ k, k ≤ xs.length → (xs.take k).sum = S k (ix xs)
  | 0, _ => by simp [S]
  | k + 1, h => by rw [sum_take_succ (by omega), sum_take_S xs k (by omega)]; rfl
theorem sum_S (xs : List Int) : xs.sum = S xs.length (ix xs) := by
  have := sum_take_S xs xs.length (Nat.le_refl _)
  rwa [List.take_length] at this
theorem Rc.rowsum {n m : Nat} {X : List (List Int)} (h : Rc n m X) {i : Nat} (hi : i < n) : (rowAt X i).sum = S m (elOf X i) := by
  rw [sum_S, h.row i hi]; rfl
theorem Rc.colsum {n m : Nat} {X : List (List Int)} (h : Rc n m X) (j : Nat) : (colOf X j).sum = S n (fun i => elOf X i j) := by
  rw [sum_S, colOf_length, h.len]
  exact S_congr (fun i hi => ix_colOf (by rw [h.len]; exact hi))
theorem TrOk.rcLo {T : Tr} (h : TrOk T) : Rc T.rows.length T.cols.length T.lo := ⟨h.dims.2.2.2.2.1, fun _ hu => (h.rowlen hu).1⟩
theorem TrOk.rcHi {T : Tr} (h : TrOk T) : Rc T.rows.length T.cols.length T.hi := ⟨h.dims.2.2.2.2.2, fun _ hu => (h.rowlen hu).2⟩
theorem TrOk.el {T : Tr} (h : TrOk T) {i j : Nat} (hi : i < T.rows.length) (hj : j < T.cols.length) : 0 ≤ elOf T.lo i j ∧ elOf T.lo i j ≤ elOf T.hi i j ∧ elOf T.hi i j ≤ 100000 := h.cell hi hj
theorem TrOk.withinLo {T : Tr} (h : TrOk T) : Within T T.lo := ⟨h.rcLo.len, fun i hi => ⟨h.rcLo.row i hi, fun _ hj => ⟨Int.le_refl _, (h.el hi hj).2.1⟩⟩⟩
theorem Within.tame {T : Tr} {x : List (List Int)} (h : TrOk T) (hx : Within T x) : Tame x := by
  have d := h.dims
  refine ⟨by have := hx.1; omega, fun i hi => ?_⟩
  have hi' : i < T.rows.length := by have := hx.1; omega
  have h1 := hx.2 i hi'
  refine ⟨by omega, fun j hj => ?_⟩
  have h2 := h1.2 j (by omega)
  have h3 := h.el hi' (j := j) (by omega)
  unfold elOf at h2 h3
  omega
theorem TrOk.rowR {T : Tr} (h : TrOk T) {i : Nat} (hi : i < T.rows.length) : 0 ≤ ix T.rows i ∧ ix T.rows i ≤ 100000 := by
  have h1 := h.1
  simp only [sumsB, Bool.and_eq_true, decide_eq_true_eq] at h1
  exact allIn_true h1.2 hi
theorem TrOk.colR {T : Tr} (h : TrOk T) {i : Nat} (hi : i < T.cols.length) : 0 ≤ ix T.cols i ∧ ix T.cols i ≤ 100000 := by
  have h1 := h.2.1
  simp only [sumsB, Bool.and_eq_true, decide_eq_true_eq] at h1
  exact allIn_true h1.2 hi
/-- the filling of the source's and the sink's edges, under way -/
def fillUp (t : Net) (k l : Nat) (a b : Nat) : Int :=
  if a < t.n + t.m then (if b < t.n + t.m then resD t.n t.Lo t.Hi t.Lo (fun _ _ => true) a b else if b = t.n + t.m + 1 ∧ t.n ≤ a ∧ a - t.n < l then t.C (a - t.n) - S t.n (fun i => t.Lo i (a - t.n)) else 0)
  else if a = t.n + t.m ∧ b < k then t.R b - S t.m (t.Lo b) else 0
theorem fillUp_zero (t : Net) (a b : Nat) : fillUp t 0 0 a b = if a < t.n + t.m ∧ b < t.n + t.m then resD t.n t.Lo t.Hi t.Lo (fun _ _ => true) a b else 0 := by
  unfold fillUp
  by_cases h1 : a < t.n + t.m
  · by_cases h2 : b < t.n + t.m
    · simp [h1, h2]
    · simp [h1, h2]
  · simp [h1]
theorem fillUp_row (t : Net) {k : Nat} (a b : Nat) : fillUp t (k + 1) 0 a b = if a = t.n + t.m ∧ b = k then t.R k - S t.m (t.Lo k) else fillUp t k 0 a b := by
  unfold fillUp
  by_cases h1 : a < t.n + t.m
  · rw [if_pos h1, if_pos h1, if_neg (fun e : a = t.n + t.m ∧ b = k => by omega)]
  · rw [if_neg h1, if_neg h1]
    by_cases h2 : a = t.n + t.m ∧ b = k
    · rw [if_pos h2, if_pos ⟨h2.1, by omega⟩, h2.2]
    · rw [if_neg h2]
      by_cases h3 : a = t.n + t.m ∧ b < k
      · rw [if_pos h3, if_pos ⟨h3.1, by omega⟩]
      · rw [if_neg h3, if_neg (fun e => by
          have : b ≠ k := fun e2 => h2 ⟨e.1, e2⟩
          exact h3 ⟨e.1, by omega⟩)]
theorem fillUp_col (t : Net) {l : Nat} (hl : l < t.m) (a b : Nat) : fillUp t t.n (l + 1) a b = if a = t.n + l ∧ b = t.n + t.m + 1 then t.C l - S t.n (fun i => t.Lo i l) else fillUp t t.n l a b := by
  unfold fillUp
  by_cases h1 : a < t.n + t.m
  · rw [if_pos h1, if_pos h1]
    by_cases h2 : a = t.n + l ∧ b = t.n + t.m + 1
    · obtain ⟨rfl, rfl⟩ := h2
      rw [if_neg (by omega), if_pos (by omega), if_pos ⟨rfl, rfl⟩]; simp
    · rw [if_neg h2]
      by_cases h3 : b < t.n + t.m
      · rw [if_pos h3, if_pos h3]
      · rw [if_neg h3, if_neg h3]
        by_cases h4 : b = t.n + t.m + 1 ∧ t.n ≤ a ∧ a - t.n < l
        · rw [if_pos h4, if_pos ⟨h4.1, h4.2.1, by omega⟩]
        · rw [if_neg h4, if_neg (fun e => h4 ⟨e.1, e.2.1, by
            have : a ≠ t.n + l := fun e2 => h2 ⟨e2, e.1⟩
            omega⟩)]
  · rw [if_neg h1, if_neg h1, if_neg (fun e : a = t.n + l ∧ b = t.n + t.m + 1 => by omega)]
theorem fillUp_done (t : Net) {a b : Nat} : fillUp t t.n t.m a b = fillD t a b := by
  unfold fillUp fillD
  by_cases h1 : a < t.n + t.m
  · rw [if_pos h1, if_pos h1]
    by_cases h3 : b < t.n + t.m
    · rw [if_pos h3, if_pos h3]
    · rw [if_neg h3, if_neg h3]
      by_cases h4 : b = t.n + t.m + 1 ∧ t.n ≤ a
      · rw [if_pos h4, if_pos ⟨h4.1, h4.2, by omega⟩]
      · rw [if_neg h4, if_neg (fun e => h4 ⟨e.1, e.2.1⟩)]
  · rw [if_neg h1, if_neg h1]
theorem fillUp_next (t : Net) (a b : Nat) : fillUp t t.n 0 a b = fillUp t t.n 0 a b := rfl
theorem Fm.Cert.congr {t : Net} {x y : Nat → Nat → Int} {A B : Nat → Bool} (h : Cert t x A B) (e : ∀ i j, i < t.n → j < t.m → y i j = x i j) : Cert t y A B := by
  have er : ∀ i, i < t.n → S t.m (y i) = S t.m (x i) := fun i hi => S_congr (fun j hj => e i j hi hj)
  have ec : ∀ j, j < t.m → S t.n (fun i => y i j) = S t.n (fun i => x i j) := fun j hj => S_congr (fun i hi => e i j hi hj)
  exact ⟨⟨fun i j hi hj => by rw [e i j hi hj]; exact h.fits.lo i j hi hj, fun i j hi hj => by rw [e i j hi hj]; exact h.fits.hi i j hi hj, fun i hi => by rw [er i hi]; exact h.fits.row i hi, fun j hj => by rw [ec j hj]; exact h.fits.col j hj⟩,
    fun i hi ha => by rw [er i hi]; exact h.rowT i hi ha, fun j hj hb => by rw [ec j hj]; exact h.colT j hj hb, fun i j hi hj ha hb => by rw [e i j hi hj]; exact h.up i j hi hj ha hb, fun i j hi hj ha hb => by rw [e i j hi hj]; exact h.dn i j hi hj ha hb⟩
/-- a row of a grid is copied into -/
theorem OwnGA.copied {lo hi g n k : Nat} {w w' : World} {ao : Option Addr} {rvs : List Value} {R : List (List Int)} {ys : List Int} {c : Array Value} (h : OwnGA lo hi w ao rvs R) (hk : k < R.length)
    (hv : rvAt rvs k = .slice (some ⟨g, 0, none⟩) n n) (hg : g + 1 = w.heap.size) (hl : ys.length = n) (hn : 0 < n) (hn2 : n ≤ 9223372036854775807) (hrl : (rowAt R k).length = n)
    (hrow : w'.heap[g]? = some (.cells c 3 (0, 0))) (hc : ∀ j, j < n → c[j]? = some (.int .i64 (ix ys j))) (hb : Below g w w') : OwnGA lo hi w' ao rvs (R.set k ys) := by
  have hne : rowAt R k ≠ [] := fun e => by rw [e] at hrl; simp at hrl; omega
  have hr := (h.row k hk).range hne
  rw [hv] at hr
  simp only [blk, ablk] at hr
  refine h.put hk (by omega) ?_ ⟨hb.os, hb.tape, hb.output, hb.size, fun b hb1 hb2 => hb.block b (by
    have : b ≠ g := fun e => hb2 ⟨hne, by rw [hv]; exact e⟩
    omega)⟩
  rw [hv]
  exact ⟨some ⟨g, 0, none⟩, n, by rw [hl], by omega, hn2, .inr ⟨g, 0, c, rfl, hr.1, hr.2.1, hrow, fun j hj => by rw [Nat.zero_add]; exact hc j (by omega)⟩⟩
theorem splice_zero_get {cur cs : List Value} {j : Nat} : (splice cur 0 cs)[j]? = if j < cs.length then cs[j]? else cur[j]? := by
  unfold splice
  simp only [List.take_zero, List.nil_append, Nat.zero_add]
  by_cases hj : j < cs.length
  · rw [List.getElem?_append_left hj, if_pos hj]
  · rw [List.getElem?_append_right (by omega), if_neg hj, List.getElem?_drop]
    congr 1; omega
theorem IntsA.cells {w : World} {ao : Option Addr} {xs : List Int} (h : IntsA w ao xs) (h0 : 0 < xs.length) : ∃ ad, ao = some ad ∧ ∀ j v, (xs.map (Value.int .i64))[j]? = some v → w.cell? (ad.add j) = some v := by
  obtain ⟨b, o, rfl, hc0⟩ := h 0 h0
  refine ⟨_, rfl, fun j u hj => ?_⟩
  have hjl : j < xs.length := by
    have := (List.getElem?_eq_some_iff.1 hj).1; simpa using this
  obtain ⟨b', o', e, hc⟩ := h j hjl
  simp only [Option.some.injEq, Addr.mk.injEq, and_true] at e
  obtain ⟨rfl, rfl⟩ := e
  have hu : u = .int .i64 (ix xs j) := by
    have h5 : (xs.map (Value.int .i64))[j]? = some (.int .i64 (ix xs j)) := by simp [ix, List.getD, hjl]
    rw [h5] at hj; exact (Option.some.inj hj).symm
  subst hu
  by_cases ej : j = 0
  · subst ej; simpa [Addr.add] using hc
  · simpa [Addr.add, ej] using hc
theorem splice_cells {cur cs : List Value} {xs : List Int} {N : Nat} (hcs : cs = xs.map (.int .i64)) (hx : xs.length = N) (hcur : madeCells #[.int .i64 0] (N + 2) = cur.toArray) :
    ∀ j, j < N + 2 → (splice cur 0 cs).toArray[j]? = some (.int .i64 (ix (xs ++ [0, 0]) j)) := by
  intro j hj
  rw [List.getElem?_toArray, splice_zero_get]
  have hl : cs.length = N := by rw [hcs, List.length_map, hx]
  rw [hl]
  by_cases h : j < N
  · rw [if_pos h, hcs, ix_append_left (by omega)]
    simp [ix, List.getD, hx, h]
  · rw [if_neg h]
    have h1 : cur.toArray[j]? = some (.int .i64 0) := by rw [← hcur]; simp [madeCells, hj, Nat.mod_one]
    rw [List.getElem?_toArray] at h1
    rw [h1]
    have : ix (xs ++ [0, 0]) j = 0 := by
      unfold ix
      rw [List.getD, List.getElem?_append_right (by omega), hx]
      have : j - N = 0 ∨ j - N = 1 := by omega
      rcases this with e | e <;> rw [e] <;> rfl
    rw [this]
theorem pastB_all (m i j : Nat) : true = pastB m (-1) i j := by
  unfold pastB
  have : (0 : Int) ≤ (i : Int) * (m : Int) := Int.mul_nonneg (by omega) (by omega)
  simp; omega
theorem S_const_le {n N : Nat} {c : Int} (h : n ≤ N) (hc : 0 ≤ c) : S n (fun _ => c) ≤ N * c := by
  have e : S n (fun _ => c) = n * c := by
    induction n with
    | zero => simp [S]
    | succ n ih => simp only [S]; rw [ih (by omega)]; simp [Int.add_mul]
  rw [e]
  exact Int.mul_le_mul_of_nonneg_right (by omega) hc
theorem Own.at_' {lo hi n c : Nat} {w : World} {ao : Option Addr} {xs : List Int} (h : Own lo hi w (.slice ao n c) xs) {k : Nat} (hk : k < xs.length) : ∃ b o, ao = some ⟨b, o, none⟩ ∧ lo ≤ b ∧ b < hi ∧ b < w.heap.size ∧
    w.cell? ⟨b, o + k, none⟩ = some (.int .i64 (ix xs k)) ∧ w.frozen? ⟨b, o + k, none⟩ = false := by
  obtain ⟨ao', cap, e, _, _, h3⟩ := h
  simp only [Value.slice.injEq] at e
  obtain ⟨rfl, _, _⟩ := e
  exact h3.at_ hk
theorem Fm.Pushed.of_eq {N : Nat} {r r0 r' : Nat → Nat → Int} {s t : Nat} {lim sent : Int} (h : Pushed N r s t lim sent r') (hs : s < N) (e : ∀ u v, u < N → v < N → r u v = r0 u v) : Pushed N r0 s t lim sent r' :=
  ⟨h.nonneg, fun u v hu hv => by rw [← e u v hu hv, ← e v u hv hu]; exact h.pair u v hu hv, fun u hu h1 h2 => by rw [h.node u hu h1 h2]; exact S_congr (fun v hv => e u v hu hv),
    by rw [← S_congr (fun v hv => e s v hs hv)]; exact h.src, h.pos, h.le, h.done⟩
theorem OwnGA.grid_of {lo hi n cap : Nat} {w : World} {ao : Option Addr} {rvs : List Value} {R : List (List Int)} (h : OwnGA lo hi w ao rvs R) (hl : R.length = n) (h1 : n ≤ cap) (h2 : cap ≤ 9223372036854775807) : Grid w (.slice ao n cap) R :=
  ⟨ao, cap, by rw [hl], by omega, h2, h.grid⟩
theorem TrOk.rowsSum {T : Tr} (h : TrOk T) : SumOk T.rows ∧ 0 ≤ T.rows.sum ∧ T.rows.sum ≤ 800000 := by
  have d := h.dims
  have e : ∀ x ∈ T.rows, 0 ≤ x ∧ x ≤ 100000 := fun x hx => by
    obtain ⟨j, hj, rfl⟩ := List.getElem_of_mem hx
    rw [← ix_eq hj]; exact h.rowR hj
  have h2 := sum_nonneg_le e
  refine ⟨SumOk.of_bound (B := 100000) (by omega) (fun x hx => by have := e x hx; omega) d.2.1 (by omega), h2.1, by omega⟩
theorem TrOk.colsSum {T : Tr} (h : TrOk T) : SumOk T.cols ∧ 0 ≤ T.cols.sum ∧ T.cols.sum ≤ 800000 := by
  have d := h.dims
  have e : ∀ x ∈ T.cols, 0 ≤ x ∧ x ≤ 100000 := fun x hx => by
    obtain ⟨j, hj, rfl⟩ := List.getElem_of_mem hx
    rw [← ix_eq hj]; exact h.colR hj
  have h2 := sum_nonneg_le e
  refine ⟨SumOk.of_bound (B := 100000) (by omega) (fun x hx => by have := e x hx; omega) d.2.2.2.1 (by omega), h2.1, by omega⟩
theorem fillD_bound {t : Net} (hlo : ∀ i j, i < t.n → j < t.m → 0 ≤ t.Lo i j ∧ t.Lo i j ≤ t.Hi i j ∧ t.Hi i j ≤ 100000) (hr : ∀ i, i < t.n → S t.m (t.Lo i) ≤ t.R i ∧ t.R i ≤ 100000) (hc : ∀ j, j < t.m → S t.n (fun i => t.Lo i j) ≤ t.C j ∧ t.C j ≤ 100000) {a b : Nat} (_ha : a < t.n + t.m + 2) (_hb : b < t.n + t.m + 2) :
    0 ≤ fillD t a b ∧ fillD t a b ≤ 1000000000 := by
  unfold fillD resD
  split
  · rename_i h1
    split
    · rename_i h2
      split
      · split
        · have := hlo a (b - t.n) (by omega) (by omega); simp; omega
        · omega
      · split
        · have := hlo b (a - t.n) (by omega) (by omega); simp
        · omega
    · split
      · rename_i h2 h3
        have h4 := hc (a - t.n) (by omega)
        have h5 := S_nonneg (n := t.n) (f := fun i => t.Lo i (a - t.n)) (fun i hi => (hlo i (a - t.n) hi (by omega)).1)
        omega
      · omega
  · split
    · rename_i h2 h3
      have h4 := hr b h3.2
      have h5 := S_nonneg (n := t.m) (f := t.Lo b) (fun j hj => (hlo b j h3.2 hj).1)
      omega
    · omega
theorem Upd.of_below {B : Nat} {w w' : World} (h : Below B w w') : Upd (fun b => B ≤ b) w w' := ⟨h.os, h.tape, h.output, h.size, fun k _ hs => h.block k (by omega)⟩
/-- a row of the greater network: a row of the lesser one and two zeros, or zeros -/
def rowGood (N : Nat) (I : List (List Int)) (j : Nat) (r : List Int) : Prop := r.length = N + 2 ∧ ∀ b, b < N + 2 → ix r b = if j < N ∧ b < N then elOf I j b else 0
theorem rowGood.copied {N k : Nat} {I : List (List Int)} (hk : k < N) (hl : (rowAt I k).length = N) : rowGood N I k (rowAt I k ++ [0, 0]) := by
  refine ⟨by simp [hl], fun b hb => ?_⟩
  by_cases h : b < N
  · rw [if_pos ⟨hk, h⟩, ix_append_left (by omega)]; rfl
  · rw [if_neg (fun e => h e.2)]
    unfold ix
    rw [List.getD, List.getElem?_append_right (by omega), hl]
    have : b - N = 0 ∨ b - N = 1 := by omega
    rcases this with e | e <;> rw [e] <;> rfl
theorem rowGood.zeros {N k : Nat} {I : List (List Int)} (hk : ¬ k < N) : rowGood N I k (List.replicate (N + 2) 0) :=
  ⟨by simp, fun b hb => by rw [if_neg (fun e => hk e.1), ix_replicate hb]⟩
end Go.Proofs.Ytodnkahnbidgaaa
