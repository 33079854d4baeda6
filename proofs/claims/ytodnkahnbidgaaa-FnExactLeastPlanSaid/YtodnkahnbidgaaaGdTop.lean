/- GreedyPlan, all of it above the protection of cells. -/
import Derived.Test.YtodnkahnbidgaaaSec5
import Derived.Test.YtodnkahnbidgaaaMix
import Derived.BigQuiet
import Derived.Shelf.Abstract
import Derived.BigRegion
import Derived.Deep.LoopGhost
import Derived.Deep.CutRange
import Derived.Deep.CutBlock
import Derived.Deep.RegionHeld3
import Derived.StillTailTactics
import Derived.Test.YtodnkahnbidgaaaSz
namespace Go.Proofs.Ytodnkahnbidgaaa
open Go.RowKit
open Fm

def gR (g : Nat → Nat → Int) (r : List Int) : Int := g (ix r 0).toNat (ix r 1).toNat
theorem gR_pair (g : Nat → Nat → Int) (i j : Nat) : gR g (pairI i j) = g i j := by
  have e0 : ix (pairI i j) 0 = (i : Int) := rfl
  have e1 : ix (pairI i j) 1 = (j : Int) := rfl
  simp [gR, e0, e1]
theorem rowC_sum (f : Nat → Nat → Int → Bool) (g : Nat → Nat → Int) (i : Nat) (r : List Int) : ∀ l, ((rowC f i r l).map (gR g)).sum = S l (fun j => if f i j (ix r j) = true then g i j else 0)
  | 0 => by simp [rowC, S]
  | l + 1 => by
    have ih := rowC_sum f g i r l
    have e : rowC f i r (l + 1) = rowC f i r l ++ (if f i l (ix r l) = true then [pairI i l] else []) := by
      by_cases h : f i l (ix r l) = true
      · simp [rowC, List.range_succ, List.filter_append, h]
      · simp [rowC, List.range_succ, List.filter_append, h]
    rw [e, List.map_append, List.sum_append, ih]
    show _ = S l _ + _
    by_cases h : f i l (ix r l) = true
    · simp [h, gR_pair]
    · simp [h]
theorem cellsTo_sum (f : Nat → Nat → Int → Bool) (g : Nat → Nat → Int) (p : List (List Int)) : ∀ k, ((cellsTo f p k 0).map (gR g)).sum = S k (fun i => S (rowAt p i).length (fun j => if f i j (elOf p i j) = true then g i j else 0))
  | 0 => by simp [cellsTo, rowC, S]
  | k + 1 => by
    have ih := cellsTo_sum f g p k
    have e : cellsTo f p (k + 1) 0 = cellsTo f p k 0 ++ rowC f k (rowAt p k) (rowAt p k).length := by
      simp [cellsTo, rowC, List.range_succ, List.flatMap_append]
    rw [e, List.map_append, List.sum_append, ih, rowC_sum]
    rfl
theorem cellsL_sum {f : Nat → Nat → Int → Bool} (g : Nat → Nat → Int) {p : List (List Int)} {n m : Nat} (h : Rc n m p) : ((cellsL f p).map (gR g)).sum = S n (fun i => S m (fun j => if f i j (elOf p i j) = true then g i j else 0)) := by
  unfold cellsL
  rw [cellsTo_sum, h.len]
  exact S_congr (fun i hi => by rw [h.row i hi])
theorem cellsL_cnt {f : Nat → Nat → Int → Bool} {p : List (List Int)} {n m : Nat} (h : Rc n m p) : ((cellsL f p).length : Int) = S n (fun i => S m (fun j => if f i j (elOf p i j) = true then 1 else 0)) := by
  rw [← cellsL_sum (fun _ _ => 1) h]
  have : ∀ L : List (List Int), (L.length : Int) = (L.map (gR (fun _ _ => 1))).sum := fun L => by
    induction L with
    | nil => simp
    | cons a L ih => simp only [List.length_cons, List.map_cons, List.sum_cons]; rw [← ih, show gR (fun _ _ => (1 : Int)) a = 1 from rfl]; omega
  exact this _
theorem cellsL_val {f : Nat → Nat → Int → Bool} {x p : List (List Int)} {n m : Nat} (h : Rc n m p) : sumR x (cellsL f p) = S n (fun i => S m (fun j => if f i j (elOf p i j) = true then elOf x i j else 0)) :=
  cellsL_sum (elOf x) h
/-- one cell's summand changes -/
theorem SS_flip {n m a b : Nat} (ha : a < n) (hb : b < m) {F F' : Nat → Nat → Int} {c : Int} (hne : ∀ i j, i < n → j < m → ¬ (i = a ∧ j = b) → F' i j = F i j) (he : F' a b = F a b + c) :
    S n (fun i => S m (F' i)) = S n (fun i => S m (F i)) + c := by
  have e1 : ∀ i, i < n → S m (F' i) = S m (F i) + (if i = a then c else 0) := fun i hi => by
    by_cases e : i = a
    · subst e
      rw [if_pos rfl]
      have : S m (F' i) = S m (fun j => F i j + if j = b then c else 0) := S_congr (fun j hj => by
        by_cases ej : j = b
        · subst ej; rw [if_pos rfl]; exact he
        · rw [if_neg ej, hne i j hi hj (fun h => ej h.2)]; omega)
      rw [this, S_add, S_single hb]
    · rw [if_neg e]
      have : S m (F' i) = S m (F i) := S_congr (fun j hj => hne i j hi hj (fun h => e h.1))
      omega
  rw [S_congr e1, S_add, S_single ha]

def zeroF (_ _ : Nat) (v : Int) : Bool := decide (v = 0)
def setOne (P : List (List Int)) (a b : Nat) : List (List Int) := P.set a ((rowAt P a).set b 1)
theorem setOne_rc {n m : Nat} {P : List (List Int)} (h : Rc n m P) (a b : Nat) : Rc n m (setOne P a b) := h.set 1
theorem elOf_setOne {n m : Nat} {P : List (List Int)} (h : Rc n m P) {a b : Nat} (ha : a < n) (hb : b < m) (i j : Nat) : elOf (setOne P a b) i j = if i = a ∧ j = b then 1 else elOf P i j := by
  unfold elOf setOne
  have hl : a < P.length := by rw [h.len]; exact ha
  by_cases e : i = a
  · subst e
    have : rowAt (P.set i ((rowAt P i).set b 1)) i = (rowAt P i).set b 1 := by simp [rowAt, List.getD, hl]
    rw [this, ix_set]
    have hr : b < (rowAt P i).length := by rw [h.row i ha]; exact hb
    by_cases ej : j = b
    · subst ej; simp [hr]
    · simp [ej]
  · have : rowAt (P.set a ((rowAt P a).set b 1)) i = rowAt P i := by simp [rowAt, List.getD, Ne.symm e]
    rw [this, if_neg (fun h => e h.1)]
theorem pub_of {x P : List (List Int)} (hx : gridB 8 1000 x = true) (hP : Rc x.length (rowAt x 0).length P) (h01 : ∀ i j, i < x.length → j < (rowAt x 0).length → elOf P i j = 0 ∨ elOf P i j = 1) : pubB x P = true := by
  have g := gridB_true.1 hx
  have r0 : (rowAt P 0).length = (rowAt x 0).length := hP.row 0 (by omega)
  have hp : gridB 8 1 P = true := gridB_true.2 ⟨by rw [hP.len]; exact g.1, by rw [hP.len]; exact g.2.1, by rw [r0]; exact g.2.2.1, by rw [r0]; exact g.2.2.2.1, fun k hk => by
    rw [hP.len] at hk
    refine ⟨by rw [r0]; exact hP.row k hk, ?_⟩
    unfold allIn
    refine all_true_of_ix fun j hj => ?_
    rw [hP.row k hk] at hj
    have := h01 k j hk hj
    unfold elOf at this
    simp; omega⟩
  unfold pubB patB
  rw [hx, hp]
  simp only [Bool.true_and, decide_eq_true_eq]
  exact ⟨hP.len, r0⟩
theorem pat01 {x P : List (List Int)} (h : pubB x P = true) {i j : Nat} (hi : i < x.length) (hj : j < (rowAt x 0).length) : elOf P i j = 0 ∨ elOf P i j = 1 := by
  have hr := pat_rc h
  simp only [pubB, patB, Bool.and_eq_true] at h
  have := gridB_elem h.2.1 (k := i) (j := j) (by rw [hr.len]; exact hi) (by rw [hr.row i hi]; exact hj)
  unfold elOf; omega

section
variable {x P Q : List (List Int)} {n m : Nat}
theorem inp_set (h : inpB x P Q = true) {a b : Nat} (ha : a < x.length) (hb : b < (rowAt x 0).length) : inpB x (setOne P a b) Q = true := by
  obtain ⟨hp, hs, hc⟩ := inpB_true h
  have hr := pat_rc hp
  have h1 : pubB x (setOne P a b) = true := pub_of (pubB_shape hp).1 (setOne_rc hr a b) (fun i j hi hj => by
    rw [elOf_setOne hr ha hb]
    split
    · exact .inr rfl
    · exact pat01 hp hi hj)
  have h2 : coverB (setOne P a b) Q = true := coverB_true.2 (fun i j hi hj h1 => by
    rw [elOf_setOne hr ha hb]
    split
    · decide
    · exact coverB_true.1 hc i j hi hj h1)
  unfold inpB
  rw [h1, hs, h2]; rfl
/-- the cells that are not hidden yet -/
def zeros (P : List (List Int)) : Nat := (cellsL zeroF P).length
theorem zeros_set (hr : Rc n m P) {a b : Nat} (ha : a < n) (hb : b < m) (h0 : elOf P a b = 0) : zeros (setOne P a b) + 1 = zeros P := by
  have h1 := cellsL_cnt (f := zeroF) hr
  have h2 := cellsL_cnt (f := zeroF) (setOne_rc hr a b)
  have h3 := SS_flip ha hb (F := fun i j => if zeroF i j (elOf P i j) = true then 1 else 0) (F' := fun i j => if zeroF i j (elOf (setOne P a b) i j) = true then 1 else 0) (c := -1)
    (fun i j _ _ hne => by simp only [elOf_setOne hr ha hb, if_neg hne]) (by simp only [elOf_setOne hr ha hb, h0]; simp [zeroF])
  unfold zeros
  omega
theorem add_set (hr : Rc n m P) {a b : Nat} (ha : a < n) (hb : b < m) (h0 : elOf P a b = 0) (hq : elOf Q a b = 0) : (cellsL (addF Q) (setOne P a b)).length = (cellsL (addF Q) P).length + 1 := by
  have h1 := cellsL_cnt (f := addF Q) hr
  have h2 := cellsL_cnt (f := addF Q) (setOne_rc hr a b)
  have h3 := SS_flip ha hb (F := fun i j => if addF Q i j (elOf P i j) = true then 1 else 0) (F' := fun i j => if addF Q i j (elOf (setOne P a b) i j) = true then 1 else 0) (c := 1)
    (fun i j _ _ hne => by simp only [elOf_setOne hr ha hb, if_neg hne]) (by simp only [elOf_setOne hr ha hb, h0]; simp [addF, hq])
  omega
theorem val_set (hr : Rc n m P) {a b : Nat} (ha : a < n) (hb : b < m) (h0 : elOf P a b = 0) (hq : elOf Q a b = 0) : sumR x (cellsL (addF Q) (setOne P a b)) = sumR x (cellsL (addF Q) P) + elOf x a b := by
  rw [cellsL_val hr, cellsL_val (setOne_rc hr a b)]
  exact SS_flip ha hb (F := fun i j => if addF Q i j (elOf P i j) = true then elOf x i j else 0) (F' := fun i j => if addF Q i j (elOf (setOne P a b) i j) = true then elOf x i j else 0) (c := elOf x a b)
    (fun i j _ _ hne => by simp only [elOf_setOne hr ha hb, if_neg hne]) (by simp only [elOf_setOne hr ha hb, h0]; simp [addF, hq])
/-- nothing is added at the start -/
theorem add_self : cellsL (addF Q) Q = [] := by
  have : ∀ r, r ∈ cellsL (addF Q) Q → False := fun r hr => by
    simp only [cellsL, cellsTo, rowC, List.range_zero, List.filter_nil, List.map_nil, List.append_nil, List.mem_flatMap, List.mem_map, List.mem_filter, List.mem_range] at hr
    obtain ⟨i, _, j, ⟨_, hf⟩, _⟩ := hr
    simp only [addF, Bool.and_eq_true, decide_eq_true_eq] at hf
    have e : elOf Q i j = ix (rowAt Q i) j := rfl
    omega
  exact List.eq_nil_iff_forall_not_mem.2 this
end

/-! ### The next cell -/
def gdF (x : List (List Int)) (c : List Int → Bool) (b : Option (List Int)) (r : List Int) : Option (List Int) :=
  if c r = true then (match b with | none => some r | some s => if valR x r < valR x s then some r else b) else b
def gdL (x : List (List Int)) (c : List Int → Bool) (L : List (List Int)) : Option (List Int) := L.foldl (gdF x c) none
theorem gdL_snoc (x : List (List Int)) (c : List Int → Bool) (L : List (List Int)) (r : List Int) : gdL x c (L ++ [r]) = gdF x c (gdL x c L) r := by simp [gdL]
theorem gdL_mem {x : List (List Int)} {c : List Int → Bool} : ∀ (L : List (List Int)) {r : List Int}, gdL x c L = some r → r ∈ L := by
  have key : ∀ (L : List (List Int)) (b : Option (List Int)) (r : List Int), L.foldl (gdF x c) b = some r → r ∈ L ∨ b = some r := by
    intro L
    induction L with
    | nil => intro b r h; exact .inr h
    | cons a L ih =>
      intro b r h
      rcases ih _ r h with h | h
      · exact .inl (by simp [h])
      · unfold gdF at h
        split at h
        · split at h
          · simp at h; exact .inl (by simp [h])
          · split at h
            · simp at h; exact .inl (by simp [h])
            · exact .inr h
        · exact .inr h
  intro L r h
  rcases key L none r h with h | h
  · exact h
  · cases h
def rowQ (i : Int) (r : List Int) : Bool := decide (ix r 0 = i)
def colQ (j : Int) (r : List Int) : Bool := decide (ix r 1 = j)
def allQ (_ : List Int) : Bool := true
def gdNext (x P : List (List Int)) (i j : Int) : Option (List Int) :=
  (gdL x (rowQ i) (cellsL zeroF P)).or ((gdL x (colQ j) (cellsL zeroF P)).or (gdL x allQ (cellsL zeroF P)))
theorem gdNext_cell {x P : List (List Int)} {n m : Nat} (hr : Rc n m P) {i j : Int} {r : List Int} (h : gdNext x P i j = some r) : ∃ a b, a < n ∧ b < m ∧ elOf P a b = 0 ∧ r = pairI a b := by
  have hm : r ∈ cellsL zeroF P := by
    unfold gdNext at h
    rcases h1 : gdL x (rowQ i) (cellsL zeroF P) with _ | r1
    · rw [h1] at h
      rcases h2 : gdL x (colQ j) (cellsL zeroF P) with _ | r2
      · rw [h2] at h
        exact gdL_mem _ h
      · rw [h2] at h
        simp at h
        subst h
        exact gdL_mem _ h2
    · rw [h1] at h
      simp at h
      subst h
      exact gdL_mem _ h1
  simp only [cellsL, cellsTo, rowC, List.range_zero, List.filter_nil, List.map_nil, List.append_nil, List.mem_flatMap, List.mem_map, List.mem_filter, List.mem_range] at hm
  obtain ⟨a, ha, b, ⟨hb, hf⟩, e⟩ := hm
  rw [hr.len] at ha
  rw [hr.row a ha] at hb
  exact ⟨a, b, ha, hb, of_decide_eq_true hf, e.symm⟩
/-- the cells before a position, in the order of rows -/
def cellsQ (f : Nat → Nat → Int → Bool) (P : List (List Int)) (m q : Nat) : List (List Int) := cellsTo f P (q / m) (q % m)
theorem cellsQ_zero (f : Nat → Nat → Int → Bool) (P : List (List Int)) (m : Nat) : cellsQ f P m 0 = [] := by simp [cellsQ, cellsTo_start]
theorem cellsQ_succ {f : Nat → Nat → Int → Bool} {P : List (List Int)} {n m q : Nat} (hr : Rc n m P) (hm : 0 < m) (hq : q < n * m) :
    cellsQ f P m (q + 1) = if f (q / m) (q % m) (elOf P (q / m) (q % m)) = true then cellsQ f P m q ++ [pairI (q / m) (q % m)] else cellsQ f P m q := by
  have h1 : q / m < n := (Nat.div_lt_iff_lt_mul hm).2 hq
  have h2 : q % m < m := Nat.mod_lt _ hm
  have e : m * (q / m) + q % m = q := Nat.div_add_mod q m
  have key : cellsQ f P m (q + 1) = cellsTo f P (q / m) (q % m + 1) := by
    unfold cellsQ
    by_cases h : q % m + 1 < m
    · have e1 : (q + 1) / m = q / m := by
        rw [show q + 1 = m * (q / m) + (q % m + 1) by omega, Nat.mul_add_div hm, Nat.div_eq_of_lt h]; omega
      have e2 : (q + 1) % m = q % m + 1 := by
        rw [show q + 1 = m * (q / m) + (q % m + 1) by omega, Nat.mul_add_mod, Nat.mod_eq_of_lt h]
      rw [e1, e2]
    · have e9 : q + 1 = m * (q / m + 1) := by rw [Nat.mul_add, Nat.mul_one]; omega
      have e1 : (q + 1) / m = q / m + 1 := by rw [e9, Nat.mul_div_cancel_left _ hm]
      have e2 : (q + 1) % m = 0 := by rw [e9, Nat.mul_mod_right]
      rw [e1, e2]
      exact cellsTo_next (by rw [hr.row _ h1]; omega)
  rw [key]
  split
  · rename_i h; exact cellsTo_yes h
  · rename_i h; exact cellsTo_no (by simpa using h)
theorem cellsQ_all {f : Nat → Nat → Int → Bool} {P : List (List Int)} {n m : Nat} (hr : Rc n m P) (hm : 0 < m) : cellsQ f P m (n * m) = cellsL f P := by
  unfold cellsQ cellsL
  rw [Nat.mul_div_cancel _ hm, Nat.mul_mod_left, hr.len]
/-- the table turned round -/
theorem zero_inv (P : List (List Int)) : cellsL oneF (mapG (fun _ _ v => 1 - v) P) = cellsL zeroF P := by
  simp only [cellsL, cellsTo, rowC, List.range_zero, List.filter_nil, List.map_nil, List.append_nil, mapG_length, List.flatMap]
  congr 1
  refine List.map_congr_left fun i hi => ?_
  have hi' : i < P.length := List.mem_range.1 hi
  rw [rowAt_mapG hi', rowF_length]
  refine congrArg _ (List.filter_congr fun j hj => ?_)
  rw [ix_rowF (List.mem_range.1 hj)]
  unfold oneF zeroF
  exact decide_eq_decide.2 (by omega)

/-! ### The run -/
noncomputable def gdRun (x Q : List (List Int)) (down up : Int) : Nat → List (List Int) → Option (List (List Int))
  | 0, _ => none
  | k + 1, P => match cellsL (openF x P down up) Q with
    | [] => some P
    | r :: _ => match gdNext x P (ix r 0) (ix r 1) with
      | none => none
      | some s => gdRun x Q down up k (setOne P (ix s 0).toNat (ix s 1).toNat)
noncomputable def gdAt (x Q P : List (List Int)) (down up : Int) : Option (List (List Int)) := gdRun x Q down up (zeros P + 1) P
theorem gdAt_done {x Q P : List (List Int)} {down up : Int} (h : (cellsL (openF x P down up) Q).length = 0) : gdAt x Q P down up = some P := by
  unfold gdAt gdRun
  rw [List.eq_nil_of_length_eq_zero h]
theorem gdAt_none {x Q P : List (List Int)} {down up : Int} {L : List (List Int)} (hL : cellsL (openF x P down up) Q = L) (h : 0 < L.length) (hn : gdNext x P (ix (rowAt L 0) 0) (ix (rowAt L 0) 1) = none) : gdAt x Q P down up = none := by
  unfold gdAt gdRun
  rw [hL]
  cases L with
  | nil => simp at h
  | cons r L =>
    have e : rowAt (r :: L) 0 = r := rfl
    rw [e] at hn
    simp only [hn]
theorem gdAt_step {x Q P : List (List Int)} {n m : Nat} {down up : Int} {L : List (List Int)} (hr : Rc n m P) (hL : cellsL (openF x P down up) Q = L) (h : 0 < L.length) {a b : Nat} (ha : a < n) (hb : b < m) (h0 : elOf P a b = 0)
    (hn : gdNext x P (ix (rowAt L 0) 0) (ix (rowAt L 0) 1) = some (pairI a b)) : gdAt x Q P down up = gdAt x Q (setOne P a b) down up := by
  have hz := zeros_set hr ha hb h0
  unfold gdAt
  rw [← hz]
  cases L with
  | nil => simp at h
  | cons r L =>
    have e : rowAt (r :: L) 0 = r := rfl
    rw [e] at hn
    conv => lhs; unfold gdRun
    rw [hL]
    simp only [hn]
    have e0 : (ix (pairI a b) 0).toNat = a := rfl
    have e1 : (ix (pairI a b) 1).toNat = b := rfl
    rw [e0, e1]
/-- the plan, none if there is none -/
noncomputable def gdG (x Q : List (List Int)) (down up : Int) : Option (List (List Int)) := if cpB x Q down up = true then gdAt x Q Q down up else none
noncomputable def gdB (x Q : List (List Int)) (down up : Int) : Bool := (gdG x Q down up).isSome
def plOf (x Q : List (List Int)) : Option (List (List Int)) → Pl
  | some P => ⟨P, (cellsL (addF Q) P).length, sumR x (cellsL (addF Q) P)⟩
  | none => ⟨[], 0, 0⟩
noncomputable def gdV (x Q : List (List Int)) (down up : Int) : Pl := plOf x Q (gdG x Q down up)
theorem inp_self {x Q : List (List Int)} (h : pubB x Q = true) : inpB x Q Q = true := by
  have hc : coverB Q Q = true := coverB_true.2 (fun i j _ _ h1 => by rw [h1]; decide)
  unfold inpB
  rw [h, hc]; rfl
theorem addF_bounds {x P Q : List (List Int)} (h : inpB x P Q = true) : (cellsL (addF Q) P).length ≤ 64 ∧ 0 ≤ sumR x (cellsL (addF Q) P) ∧ sumR x (cellsL (addF Q) P) ≤ 64000 := by
  obtain ⟨hp, _, _⟩ := inpB_true h
  have hr := pat_rc hp
  have hd := atk_dims hp
  have h1 := cellsTo_len (f := addF Q) (p := P) (k := P.length) (l := 0) (m := 8) (Nat.le_refl _) (fun i hi => by rw [hr.row i (by rw [← hr.len]; exact hi)]; omega)
  have h2 := sumR_bound (x := x) (L := cellsL (addF Q) P) (n := x.length) (m := (rowAt x 0).length) (fun i j hi hj => pub_el hp hi hj) (fun r hr' => by
    obtain ⟨i, j, hi, hj, e⟩ := cellsTo_row (f := addF Q) (p := P) (k := P.length) (l := 0) (n := x.length) (m := (rowAt x 0).length) (by rw [hr.len]; omega) (.inr rfl) (by omega) (fun i hi => hr.row i hi) r hr'
    exact ⟨i, j, hi, hj, e⟩)
  have hl := hr.len
  have h3 : (cellsL (addF Q) P).length ≤ 64 := by
    have : P.length * 8 + 0 ≤ 64 := by omega
    exact Nat.le_trans h1 this
  omega
end Go.Proofs.Ytodnkahnbidgaaa
namespace Go.Proofs.Ytodnkahnbidgaaa
open Go.RowKit
open Fm

theorem Own.ints2 {w : World} {v : Value} {i j : Nat} (h : Ints w v (pairI i j)) : ∃ b o cap, v = .slice (some ⟨b, o, none⟩) 2 cap ∧ 2 ≤ cap ∧ w.cell? ⟨b, o, none⟩ = some (.int .i64 i) ∧ w.cell? ⟨b, o + 1, none⟩ = some (.int .i64 j) := by
  obtain ⟨a, c, rfl, h1, _, h3⟩ := h
  obtain ⟨b, o, rfl, e0⟩ := h3 0 (by show 0 < 2; omega)
  obtain ⟨b', o', e, e1⟩ := h3 1 (by show 1 < 2; omega)
  obtain ⟨rfl, rfl⟩ : b = b' ∧ o = o' := by simpa using e
  exact ⟨b, o, c, rfl, h1, e0, e1⟩

set_option maxRecDepth 100000 in
set_option maxHeartbeats 3200000 in
theorem freeCells_c (v : Value) (P : List (List Int)) (n m : Nat) (w : World) (h : Grid w v P) (hr : Rc n m P) (hd : 1 ≤ n ∧ n ≤ 8 ∧ 1 ≤ m ∧ m ≤ 8) (h01 : ∀ i j, i < n → j < m → elOf P i j = 0 ∨ elOf P i j = 1) :
    Calls Try.prog 54 #[v] w (RetGrid (fun v' => v') w (cellsL zeroF P)) := by
  have H := Lib.hid h; clear h
  have HN := Lib.hid hr.len
  have HR := Lib.hid hr.row; clear hr
  have H01 := Lib.hid h01; clear h01
  go_enter Try.func54, Try.ntmps54
  go_wp2_with fail
  refine (copyMatrix_c _ P w H.out (by have := HN.out; omega) (fun k hk => by rw [HR.out k (by rw [← HN.out]; exact hk)]; omega) (fun k hk e => by have := HR.out k (by rw [← HN.out]; exact hk); rw [e] at this; simp at this; omega)).mono ?_
  rintro e w1 ⟨v', rvs, rfl, og, WX⟩
  obtain ⟨ao, cap, rfl, q4, q5, q6⟩ := og
  have GA := Lib.hid q6; clear q6
  rw [HN.out] at q4 ⊢
  have hs1 := WX.size
  go_wp2_with fail
  go_loopw [11] (fun i wr => ∃ (k : Nat) (zs : List (List Int)), k ≤ n ∧ i = .int .i64 k ∧ OwnGA w.heap.size w1.heap.size wr ao rvs zs ∧ Mix (fun _ _ v => 1 - v) P zs k 0 ∧ w1.heap.size ≤ wr.heap.size ∧ Ext w wr) (fun i _ => n - (intOf i).toNat)
  case atStart => exact ⟨0, P, Nat.zero_le _, rfl, GA.out, Mix.start, Nat.le_refl _, WX⟩
  case round =>
    obtain ⟨k, zs, hk, rfl, hg, hm, hsz, hx⟩ := hrel
    obtain ⟨wo, rfl⟩ : ∃ wo : World, wo = wr := ⟨_, rfl⟩
    have HM := Lib.hid hm; clear hm
    have HG := Lib.hid hg; clear hg
    by_cases hlt : k < n
    · have hltx : k < P.length := by rw [HN.out]; exact hlt
      have hz : k < zs.length := by rw [HM.out.len]; exact hltx
      obtain ⟨b, o, rfl, lb, lb2, lb3, hc, hf⟩ := HG.out.at_ hz
      obtain ⟨ar, cr, ev, r1, r2⟩ := HG.out.rowForm hz
      rw [HM.out.row k hltx, HR.out k hlt] at ev r1
      rw [ev] at hc
      have EV := Lib.hid ev; clear ev
      have HLX := Lib.hid hltx; clear hltx hz
      go_wp2_with fail
      go_loopw [17] (fun i wr' => ∃ (l : Nat) (zs' : List (List Int)), l ≤ m ∧ i = .int .i64 l ∧ OwnGA w.heap.size w1.heap.size wr' (some ⟨b, o, none⟩) rvs zs' ∧ Mix (fun _ _ v => 1 - v) P zs' k l ∧ w1.heap.size ≤ wr'.heap.size ∧ Ext w wr') (fun i _ => m - (intOf i).toNat)
      case atStart => exact ⟨0, zs, Nat.zero_le _, rfl, HG.out, HM.out, hsz, hx⟩
      case round =>
        obtain ⟨l, zs', hl, rfl, hg', hm', hsz', hx'⟩ := hrel
        obtain ⟨wi, rfl⟩ : ∃ wi : World, wi = wr := ⟨_, rfl⟩
        have HM' := Lib.hid hm'; clear hm'
        have HG' := Lib.hid hg'; clear hg'
        clear hc hf
        by_cases hl2 : l < m
        · have hl2x : l < (rowAt P k).length := by rw [HR.out k hlt]; exact hl2
          have hz' : k < zs'.length := by rw [HM'.out.len]; exact HLX.out
          have hrl : l < (rowAt zs' k).length := by rw [HM'.out.row k HLX.out]; exact hl2x
          obtain ⟨b2, o2, rfl, l1, l2, l3, hc2, hf2, st⟩ := HG'.out.store hz' hrl EV.out
          rw [HM'.out.at_ HLX.out hl2x] at hc2
          have ST := Lib.hid st; clear st hz' hrl
          have HL2X := Lib.hid hl2x; clear hl2x
          have h9 := H01.out k l hlt hl2
          have HEL := Lib.hid (show elOf P k l = ix (rowAt P k) l from rfl)
          rw [HEL.out] at h9
          obtain ⟨X, hX⟩ : ∃ X, ix (rowAt P k) l = X := ⟨_, rfl⟩
          rw [hX] at hc2 h9
          have HX := Lib.hid hX; clear hX
          have wX : IntKind.i64.wrap (1 - X) = 1 - X := IntWalk.i64_in _ (by omega)
          go_wp2_with fail
          go_roundw
          case rel => exact ⟨l + 1, _, by omega, by go_num, ST.out (1 - X), HM'.out.step HLX.out HL2X.out (by rw [HX.out]), by simp [World.setCell]; exact hsz', hx'.setCell _ (by simp; omega)⟩
          case measure => simp [intOf]; omega
        · go_wp2_with fail
          go_roundw
          case rel => exact ⟨k + 1, zs', by omega, by go_num, HG'.out, HM'.out.next (by rw [HR.out k hlt]; omega), hsz', hx'⟩
          case measure => simp [intOf]; omega
    · have hkk := HM.out.done (by rw [HN.out]; omega)
      subst hkk
      have O1 := Lib.hid (show OwnG w.heap.size wo.heap.size wo (.slice ao n cap) rvs (mapG (fun _ _ v => 1 - v) P) from ⟨ao, cap, by rw [mapG_length, HN.out], by rw [mapG_length, HN.out]; exact q4, q5, HG.out.mono (Nat.le_refl _) hsz⟩)
      have hso := hx.size
      go_wp2_with fail
      refine (positions_c _ _ _ O1.out.grid (by rw [mapG_length, HN.out]; omega) (fun i hi => by rw [mapG_length, HN.out] at hi; rw [rowAt_mapG (by rw [HN.out]; exact hi), rowF_length, HR.out i hi]; omega)).mono ?_
      rintro e w3 ⟨v3, rv3, rfl, o3, u3⟩
      rw [zero_inv] at o3
      have O3 := Lib.hid o3; clear o3
      go_wp2
      go_ret
      exact ⟨_, rv3, rfl, O3.out.mono hso (Nat.le_refl _), hx.trans u3⟩

/-- what the cheapest cell's value is -/
def BestV (lo : Nat) (w : World) (v : Value) (b : Option (List Int)) (n m : Nat) : Prop :=
  (b = none ∧ v = .slice none 0 0) ∨ ∃ i j p o cap, i < n ∧ j < m ∧ lo ≤ p ∧ b = some (pairI i j) ∧ v = .slice (some ⟨p, o, none⟩) 2 cap ∧ 2 ≤ cap ∧ w.cell? ⟨p, o, none⟩ = some (.int .i64 i) ∧ w.cell? ⟨p, o + 1, none⟩ = some (.int .i64 j)
theorem BestV.ext {w w' : World} {v : Value} {b : Option (List Int)} {lo n m : Nat} (h : BestV lo w v b n m) (u : Ext w w') : BestV lo w' v b n m := by
  rcases h with h | ⟨i, j, p, o, cap, h1, h2, h8, h3, h4, h5, h6, h7⟩
  · exact .inl h
  · exact .inr ⟨i, j, p, o, cap, h1, h2, h8, h3, h4, h5, Ext.cell u h6, Ext.cell u h7⟩
theorem BestV.mono {w : World} {v : Value} {b : Option (List Int)} {lo lo' n m : Nat} (h : BestV lo w v b n m) (hl : lo' ≤ lo) : BestV lo' w v b n m := by
  rcases h with h | ⟨i, j, p, o, cap, h1, h2, h8, h3⟩
  · exact .inl h
  · exact .inr ⟨i, j, p, o, cap, h1, h2, Nat.le_trans hl h8, h3⟩
theorem gdF_off {x : List (List Int)} {c : List Int → Bool} {b : Option (List Int)} {r : List Int} (h : c r = false) : gdF x c b r = b := by simp [gdF, h]
theorem gdF_first {x : List (List Int)} {c : List Int → Bool} {r : List Int} (h : c r = true) : gdF x c none r = some r := by simp [gdF, h]
theorem gdF_less {x : List (List Int)} {c : List Int → Bool} {i j a b : Nat} (h : c (pairI i j) = true) (hl : elOf x i j < elOf x a b) : gdF x c (some (pairI a b)) (pairI i j) = some (pairI i j) := by simp [gdF, h, valR_pair, hl]
theorem gdF_more {x : List (List Int)} {c : List Int → Bool} {i j a b : Nat} (hl : ¬ elOf x i j < elOf x a b) : gdF x c (some (pairI a b)) (pairI i j) = some (pairI a b) := by
  unfold gdF
  split
  · simp only [valR_pair, hl, if_false]
  · rfl

set_option maxRecDepth 100000 in
set_option maxHeartbeats 6400000 in
theorem cheapestCell_c (x P : List (List Int)) (c : List Int → Bool) (fn : Nat) (caps : Array Value) (v1 v2 : Value) (n m : Nat) (w : World) (hx : Grid w v1 x) (hP : Grid w v2 P) (rx : Rc n m x) (hr : Rc n m P) (hd : 1 ≤ n ∧ n ≤ 8 ∧ 1 ≤ m ∧ m ≤ 8) (h01 : ∀ i j, i < n → j < m → elOf P i j = 0 ∨ elOf P i j = 1)
    (hcf : ∀ (args : Array Value) (w : World), (callFunc fn args).run Try.prog w = .ok (.enter fn args) w)
    (hc : ∀ (w' : World) (v' : Value) (i j : Nat), Ext w w' → Ints w' v' (pairI i j) → i < n → j < m → Calls Try.prog fn (#[v'] ++ caps) w' fun e w'' => e = .returned (.bool (c (pairI i j))) ∧ ∃ q, w'' = w'.drewN q) :
    Calls Try.prog 45 #[v1, v2, .func (.func fn) #[] caps] w fun e w' => ∃ v', e = .returned v' ∧ BestV w.heap.size w' v' (gdL x c (cellsL zeroF P)) n m ∧ Ext w w' := by
  have HP := Lib.hid hP; clear hP
  have RX := Lib.hid rx; clear rx
  have RP := Lib.hid hr; clear hr
  have H01 := Lib.hid h01; clear h01
  have HC := Lib.hid hc; clear hc
  obtain ⟨ax, cx, rfl, x1, x2, x3⟩ := hx
  have GX := Lib.hid x3; clear x3
  rw [RX.out.len] at x1 ⊢
  have q22 : ∀ (w : World) (a : Option Addr) (n c : Nat), (binOp .eql 36 (.slice a n c) (.slice none 0 0)).run Try.prog w = .ok (.bool a.isNone) w := fun w a n c => Go.Lib.run_eql_slice_nil w _ _ a n c 0 0 Try.underlying36
  have CR := Lib.hid (fun t (ht : t < (cellsL zeroF P).length) => cellsL_row (f := zeroF) (p := P) ht)
  obtain ⟨L, hL⟩ : ∃ L, cellsL zeroF P = L := ⟨_, rfl⟩
  rw [hL] at CR ⊢
  have HL := Lib.hid hL; clear hL
  obtain ⟨K, hK⟩ : ∃ K, L.length = K := ⟨_, rfl⟩
  rw [hK] at CR
  have HK := Lib.hid hK; clear hK
  go_enter Try.func45, Try.ntmps45
  go_wp2_with fail
  refine (freeCells_c _ P n m w HP.out RP.out hd H01.out).mono ?_
  rintro e w1 ⟨v', rvs, rfl, og, u1⟩
  rw [HL.out] at og
  obtain ⟨ao, cap, rfl, q4, q5, q6⟩ := og
  have GL := Lib.hid q6; clear q6
  rw [HK.out] at q4 ⊢
  go_wp2_with fail
  go_loopw [7, 13] (fun b i wr => ∃ t : Nat, t ≤ K ∧ i = .int .i64 t ∧ BestV w.heap.size wr b (gdL x c (L.take t)) n m ∧ Ext w1 wr) (fun _ i _ => K - (intOf i).toNat)
  case atStart => exact ⟨0, Nat.zero_le _, rfl, .inl ⟨by simp [gdL], rfl⟩, Ext.refl w1⟩
  case round =>
    obtain ⟨t, ht, rfl, hb, hx⟩ := hrel
    obtain ⟨wo, rfl⟩ : ∃ wo : World, wo = wr := ⟨_, rfl⟩
    by_cases hlt : t < K
    · obtain ⟨i, j, hi, hj, _, er⟩ := CR.out t hlt
      rw [RP.out.len] at hi
      rw [RP.out.row i hi] at hj
      have htL : t < L.length := by rw [HK.out]; exact hlt
      obtain ⟨bg, og, rfl, _, _, _, hc0, _⟩ := GL.out.at_ htL
      obtain ⟨ar, cr, ev, r1, r2⟩ := GL.out.rowForm htL
      rw [ev] at hc0
      have hOw := GL.out.row t htL
      rw [ev] at hOw
      have hlo := (hOw.range (by rw [er]; simp [pairI])).1
      have hI : Ints w1 (.slice ar (rowAt L t).length cr) (pairI i j) := by rw [← er]; exact hOw.ints
      clear ev hOw htL
      have el : (rowAt L t).length = 2 := by rw [er]; rfl
      rw [el] at hc0 hI
      have HTK := Lib.hid (show gdL x c (L.take (t + 1)) = gdF x c (gdL x c (L.take t)) (pairI i j) by
        rw [take_succ_row (by rw [HK.out]; exact hlt), gdL_snoc, er])
      clear r1 r2 el er
      obtain ⟨b3, o3, c3, e3, h23, y0, y1⟩ := Own.ints2 (hI.ext hx)
      simp only [Value.slice.injEq, true_and] at e3
      obtain ⟨rfl, rfl⟩ := e3
      have HLO := Lib.hid (show w.heap.size ≤ b3 from hlo); clear hlo
      have HI := Lib.hid hI; clear hI
      have hcg := Ext.cell hx hc0
      clear hc0
      obtain ⟨bst, hbst⟩ : ∃ b, gdL x c (L.take t) = b := ⟨_, rfl⟩
      rw [hbst] at hb HTK
      clear hbst
      have hxo := u1.trans hx
      obtain ⟨bx, ox, a4, c4, rfl, e4, r1, r2, r3⟩ := (GX.out.ext hxo).at_ (k := i) (by rw [RX.out.len]; exact hi)
      rw [RX.out.row i hi] at e4 r1
      obtain ⟨b5, o5, rfl, e5⟩ := r3 j (by rw [RX.out.row i hi]; exact hj)
      clear r3 r2
      obtain ⟨xv, hxv⟩ : ∃ xv, elOf x i j = xv := ⟨_, rfl⟩
      rw [show ix (rowAt x i) j = elOf x i j from rfl, hxv] at e5
      have HXV := Lib.hid hxv; clear hxv
      have HI' := Lib.hid (HI.out.ext hx)
      cases hcv : c (pairI i j)
      · have HV := Lib.hid hcv
        have HCC := Lib.hid (fun q => by have := HC.out (wo.drewN q) _ i j (hxo.drewN q) (HI'.out.ext ((Ext.refl wo).drewN q)) hi hj; rw [hcv] at this; exact this)
        clear hcv e4 e5 y0 y1
        go_wp2_with fail
        go_quiet (exact Calls.quiet_of (HCC.out _))
        go_wp2_with fail
        go_roundw
        case rel => exact ⟨t + 1, by omega, by go_num, by rw [HTK.out, gdF_off HV.out]; exact hb.ext ((Ext.refl wo).drewN _), hx.drewN _⟩
        case measure => simp [intOf]; omega
      · have HV := Lib.hid hcv
        have HCC := Lib.hid (fun q => by have := HC.out (wo.drewN q) _ i j (hxo.drewN q) (HI'.out.ext ((Ext.refl wo).drewN q)) hi hj; rw [hcv] at this; exact this)
        clear hcv
        rcases hb with ⟨rfl, rfl⟩ | ⟨a, d, p, o, cp, ha, hdm, hlp, rfl, rfl, hcp, z0, z1⟩
        · clear e4 e5
          go_wp2_with fail
          go_quiet (exact Calls.quiet_of (HCC.out _))
          go_wp2_with fail
          go_roundw
          case rel => exact ⟨t + 1, by omega, by go_num, by rw [HTK.out, gdF_first HV.out]; exact .inr ⟨i, j, b3, o3, cr, hi, hj, HLO.out, rfl, rfl, h23, Ext.cell ((Ext.refl wo).drewN _) y0, Ext.cell ((Ext.refl wo).drewN _) y1⟩, hx.drewN _⟩
          case measure => simp [intOf]; omega
        · obtain ⟨bx', ox', a6, c6, e9, g4, s1, s2, s3⟩ := (GX.out.ext hxo).at_ (k := a) (by rw [RX.out.len]; exact ha)
          obtain ⟨rfl, rfl⟩ : bx = bx' ∧ ox = ox' := by simpa using e9
          clear e9
          rw [RX.out.row a ha] at g4 s1
          obtain ⟨b7, o7, rfl, g5⟩ := s3 d (by rw [RX.out.row a ha]; exact hdm)
          clear s3 s2
          obtain ⟨sv, hsv⟩ : ∃ sv, elOf x a d = sv := ⟨_, rfl⟩
          rw [show ix (rowAt x a) d = elOf x a d from rfl, hsv] at g5
          have HSV := Lib.hid hsv; clear hsv
          have i0 : (0 : Int) ≤ (i : Int) := by omega
          have j0 : (0 : Int) ≤ (j : Int) := by omega
          have a0 : (0 : Int) ≤ (a : Int) := by omega
          have d0 : (0 : Int) ≤ (d : Int) := by omega
          by_cases hl : xv < sv
          · have hG := gdF_less (x := x) (a := a) (b := d) HV.out (by rw [HXV.out, HSV.out]; exact hl)
            have HGL := Lib.hid hG; clear hG
            go_wp2_with fail
            go_quiet (exact Calls.quiet_of (HCC.out _))
            go_wp2_with fail
            go_roundw
            case rel => exact ⟨t + 1, by omega, by go_num, by rw [HTK.out, HGL.out]; exact .inr ⟨i, j, b3, o3, cr, hi, hj, HLO.out, rfl, rfl, h23, Ext.cell ((Ext.refl wo).drewN _) y0, Ext.cell ((Ext.refl wo).drewN _) y1⟩, hx.drewN _⟩
            case measure => simp [intOf]; omega
          · have hG := gdF_more (x := x) (c := c) (i := i) (j := j) (a := a) (b := d) (by rw [HXV.out, HSV.out]; exact hl)
            have HGL := Lib.hid hG; clear hG
            have hl' : decide (xv < sv) = false := decide_eq_false hl
            go_wp2_with fail
            go_quiet (exact Calls.quiet_of (HCC.out _))
            go_wp2_with fail
            go_roundw
            case rel => exact ⟨t + 1, by omega, by go_num, by rw [HTK.out, HGL.out]; exact .inr ⟨a, d, p, o, cp, ha, hdm, hlp, rfl, rfl, hcp, Ext.cell ((Ext.refl wo).drewN _) z0, Ext.cell ((Ext.refl wo).drewN _) z1⟩, hx.drewN _⟩
            case measure => simp [intOf]; omega
    · have hfull : L.take t = L := List.take_of_length_le (by rw [HK.out]; omega)
      rw [hfull] at hb
      have HB := Lib.hid hb
      go_wp2
      go_ret
      exact ⟨_, rfl, HB.out, u1.trans hx⟩
end Go.Proofs.Ytodnkahnbidgaaa
namespace Go.Proofs.Ytodnkahnbidgaaa
open Go.RowKit
open Fm

theorem gdC1_c (v : Value) (i j : Nat) (I : Int) (b1 : Nat) (w : World) (h : Ints w v (pairI i j)) (hc : w.cell? ⟨b1, 0, none⟩ = some (.int .i64 I)) :
    Calls Try.prog 46 #[v, .pointer (some ⟨b1, 0, none⟩)] w fun e w' => e = .returned (.bool (rowQ I (pairI i j))) ∧ ∃ q, w' = w.drewN q := by
  obtain ⟨b, o, cap, rfl, _, y0, _⟩ := Own.ints2 h
  have hB : ((i : Int) == I) = rowQ I (pairI i j) := by
    have e0 : ix (pairI i j) 0 = (i : Int) := rfl
    unfold rowQ; rw [e0]; exact Bool.beq_eq_decide_eq _ _
  obtain ⟨B, hB'⟩ : ∃ B, rowQ I (pairI i j) = B := ⟨_, rfl⟩
  rw [hB'] at hB ⊢
  clear hB'
  go_enter Try.func46, Try.ntmps46
  go_wp2_with fail
  go_quiet (fail)
  go_wp2
  go_ret
  exact ⟨by first | rw [hB] | rfl, _, rfl⟩
theorem gdC2_c (v : Value) (i j : Nat) (I : Int) (b1 : Nat) (w : World) (h : Ints w v (pairI i j)) (hc : w.cell? ⟨b1, 0, none⟩ = some (.int .i64 I)) :
    Calls Try.prog 47 #[v, .pointer (some ⟨b1, 0, none⟩)] w fun e w' => e = .returned (.bool (colQ I (pairI i j))) ∧ ∃ q, w' = w.drewN q := by
  obtain ⟨b, o, cap, rfl, _, _, y1⟩ := Own.ints2 h
  have hB : ((j : Int) == I) = colQ I (pairI i j) := by
    have e0 : ix (pairI i j) 1 = (j : Int) := rfl
    unfold colQ; rw [e0]; exact Bool.beq_eq_decide_eq _ _
  obtain ⟨B, hB'⟩ : ∃ B, colQ I (pairI i j) = B := ⟨_, rfl⟩
  rw [hB'] at hB ⊢
  clear hB'
  go_enter Try.func47, Try.ntmps47
  go_wp2_with fail
  go_quiet (fail)
  go_wp2
  go_ret
  exact ⟨by first | rw [hB] | rfl, _, rfl⟩
theorem gdC3_c (v : Value) (i j : Nat) (w : World) :
    Calls Try.prog 48 #[v] w fun e w' => e = .returned (.bool (allQ (pairI i j))) ∧ ∃ q, w' = w.drewN q := by
  go_enter Try.func48, Try.ntmps48
  go_wp2
  go_ret
  exact ⟨rfl, 0, rfl⟩
theorem gdE1 : ∀ (args : Array Value) (w : World), (callFunc 46 args).run Try.prog w = .ok (.enter 46 args) w := enters_of Try.func46 (by kernel_rfl) rfl
theorem gdE2 : ∀ (args : Array Value) (w : World), (callFunc 47 args).run Try.prog w = .ok (.enter 47 args) w := enters_of Try.func47 (by kernel_rfl) rfl
theorem gdE3 : ∀ (args : Array Value) (w : World), (callFunc 48 args).run Try.prog w = .ok (.enter 48 args) w := enters_of Try.func48 (by kernel_rfl) rfl

/-- the plan under way -/
structure GdSt (x S : List (List Int)) (down up : Int) (G : Option (List (List Int))) (w0 : World) (B n : Nat) (ao : Option Addr) (cap : Nat) (rvs : List Value) (lo : Nat) (k : Nat) (P : List (List Int)) (wr : World) : Prop where
  k : k = zeros P
  inp : inpB x P S = true
  box : Box wr B 30 #[.slice ao n cap, .int .i64 (cellsL (addF S) P).length, .int .i64 (sumR x (cellsL (addF S) P))]
  own : OwnGA lo B wr ao rvs P
  run : gdAt x S P down up = G
  ext : Ext w0 wr
theorem GdSt.ext' {x S : List (List Int)} {down up : Int} {G : Option (List (List Int))} {w0 wr wb : World} {B n : Nat} {ao : Option Addr} {cap : Nat} {rvs : List Value} {lo k : Nat} {P : List (List Int)} (h : GdSt x S down up G w0 B n ao cap rvs lo k P wr) (u : Ext wr wb) : GdSt x S down up G w0 B n ao cap rvs lo k P wb :=
  ⟨h.k, h.inp, h.box.ext u, h.own.ext u, h.run, h.ext.trans u⟩

set_option maxRecDepth 100000 in
set_option maxHeartbeats 12800000 in
theorem implGd_c (v1 : Value) (x : List (List Int)) (v2 : Value) (S : List (List Int)) (down up : Int) (w : World) (h1 : Grid w v1 x) (h2 : Grid w v2 S) :
    Calls Try.prog 14 #[v1, v2, .int .i64 down, .int .i64 up] w fun e w' => ∃ v', e = .returned (.tuple #[v', .bool (gdB x S down up)]) ∧ PlO w.heap.size w'.heap.size w' v' (gdV x S down up) ∧ Ext w w' := by
  have H1 := Lib.hid h1
  have H2 := Lib.hid h2; clear h2
  have q22 : ∀ (w : World) (a : Option Addr) (n c : Nat), (binOp .eql 36 (.slice a n c) (.slice none 0 0)).run Try.prog w = .ok (.bool a.isNone) w := fun w a n c => Go.Lib.run_eql_slice_nil w _ _ a n c 0 0 Try.underlying36
  have u0 := (Ext.refl w).alloc (.cells #[.slice none 0 0, .int .i64 0, .int .i64 0] 30)
  have b0 := Box.new w 30 #[.slice none 0 0, .int .i64 0, .int .i64 0] rfl
  have nothing : ∀ (w' : World), PlO w.heap.size w'.heap.size w' (.agg #[.slice none 0 0, .int .i64 0, .int .i64 0]) ⟨[], 0, 0⟩ := fun w' => ⟨_, _, _, [], rfl, OwnG.nil, rfl, rfl⟩
  have off : cpB x S down up = false → gdB x S down up = false ∧ gdV x S down up = ⟨[], 0, 0⟩ := fun h => by
    have e : gdG x S down up = none := by simp [gdG, h]
    unfold gdB gdV
    rw [e]; exact ⟨rfl, rfl⟩
  have q0 := b0.cell 0 (by simp)
  have q1 := b0.cell 1 (by simp)
  have q2 := b0.cell 2 (by simp)
  have f0 := b0.free 0
  have f1 := b0.free 1
  have f2 := b0.free 2
  cases hp : pubB x S
  · have hO := off (by simp [cpB, hp])
    rw [hO.1, hO.2]; clear hO off
    have HP := Lib.hid hp; clear hp
    go_enter Try.func14, Try.ntmps14
    go_wp2_with fail
    refine (areSuppressed_b false _ _ x S _ HP.out (H1.out.ext u0) (H2.out.ext u0)).mono ?_
    rintro e w' ⟨rfl, rfl⟩
    go_wp2
    refine bodyPost_ret (v := .tuple #[.agg #[.slice none 0 0, .int .i64 0, .int .i64 0], .bool false]) (by simp [results, Try.results14, go_sem, q0, q1, q2]) rfl ⟨_, rfl, nothing _, ?_⟩
    first | exact u0 | exact ((u0.setCell _ (Nat.le_refl _)).setCell _ (Nat.le_refl _)).setCell _ (Nat.le_refl _)
  cases hl : levB down up
  · have hO := off (by simp [cpB, hl])
    rw [hO.1, hO.2]; clear hO off
    have HP := Lib.hid hp; clear hp
    have HL := Lib.hid hl; clear hl
    go_enter Try.func14, Try.ntmps14
    go_wp2_with fail
    refine (areSuppressed_b true _ _ x S _ HP.out (H1.out.ext u0) (H2.out.ext u0)).mono ?_
    rintro e w' ⟨rfl, rfl⟩
    go_wp2_with fail
    refine (areMargins_b false down up _ HL.out).mono ?_
    rintro e w' ⟨rfl, rfl⟩
    go_wp2
    refine bodyPost_ret (v := .tuple #[.agg #[.slice none 0 0, .int .i64 0, .int .i64 0], .bool false]) (by simp [results, Try.results14, go_sem, q0, q1, q2]) rfl ⟨_, rfl, nothing _, ?_⟩
    first | exact u0 | exact ((u0.setCell _ (Nat.le_refl _)).setCell _ (Nat.le_refl _)).setCell _ (Nat.le_refl _)
  clear off
  have hGG : gdG x S down up = gdAt x S S down up := by simp [gdG, cpB, hp, hl]
  obtain ⟨G, hG⟩ : ∃ G, gdAt x S S down up = G := ⟨_, rfl⟩
  have hBV : gdB x S down up = G.isSome ∧ gdV x S down up = plOf x S G := by
    unfold gdB gdV
    rw [hGG, hG]; exact ⟨rfl, rfl⟩
  rw [hBV.1, hBV.2]
  clear hBV hGG
  have HIN := Lib.hid (inp_self hp)
  have HGS := Lib.hid hG; clear hG
  have hd := atk_dims hp
  have HRX := Lib.hid (pub_rc hp)
  have HRS := Lib.hid (pat_rc hp)
  have H01S := Lib.hid (show ∀ i j, i < x.length → j < (rowAt x 0).length → elOf S i j = 0 ∨ elOf S i j = 1 from fun i j hi hj => pat01 hp hi hj)
  have HP := Lib.hid hp; clear hp
  have HL := Lib.hid hl; clear hl
  obtain ⟨ax, cx, rfl, x1, x2, x3⟩ := h1
  have GX := Lib.hid x3; clear x3
  obtain ⟨n, hn⟩ : ∃ n, x.length = n := ⟨_, rfl⟩
  obtain ⟨m, hm⟩ : ∃ m, (rowAt x 0).length = m := ⟨_, rfl⟩
  rw [hn] at HRX HRS hd x1 H1 H01S ⊢
  rw [hm] at HRX HRS hd H01S
  have HN := Lib.hid hn; clear hn
  have HM := Lib.hid hm; clear hm
  have HSZ := Lib.hid (show (w.alloc (.cells #[.slice none 0 0, .int .i64 0, .int .i64 0] 30)).heap.size = w.heap.size + 1 by simp)
  have HB0 := Lib.hid b0; clear b0 q0 q1 q2 f0 f1 f2
  go_enter Try.func14, Try.ntmps14
  go_wp2_with fail
  refine (areSuppressed_b true _ _ x S _ HP.out (H1.out.ext u0) (H2.out.ext u0)).mono ?_
  rintro e w' ⟨rfl, rfl⟩
  go_wp2_with fail
  refine (areMargins_b true down up _ HL.out).mono ?_
  rintro e w' ⟨rfl, rfl⟩
  go_wp2_with fail
  refine (copyMatrix_c _ S _ (H2.out.ext u0) (by rw [HRS.out.len]; omega) (fun k hk => by rw [HRS.out.row k (by rw [← HRS.out.len]; exact hk)]; omega) (fun k hk e => by have := HRS.out.row k (by rw [← HRS.out.len]; exact hk); rw [e] at this; simp at this; omega)).mono ?_
  rintro e w1 ⟨v', rvs, rfl, og, u1⟩
  obtain ⟨ao, cap, rfl, q4, q5, q6⟩ := og
  have GA := Lib.hid q6; clear q6
  rw [HRS.out.len] at q4 ⊢
  have bP := Box.new w1 30 #[.slice none 0 0, .int .i64 0, .int .i64 0] rfl
  have g0 := bP.free 0
  have g1 := bP.free 1
  have g2 := bP.free 2
  have p0 := bP.cell 0 (by simp)
  have p1 := bP.cell 1 (by simp)
  have p2 := bP.cell 2 (by simp)
  have HQ := Lib.hid (And.intro q4 q5); clear q5
  have hs1 := u1.size
  have sz1 := Nat.lt_of_lt_of_le (show w.heap.size < (w.alloc (.cells #[.slice none 0 0, .int .i64 0, .int .i64 0] 30)).heap.size by rw [HSZ.out]; omega) hs1
  have HST := Lib.hid (show GdSt x S down up G w w1.heap.size n ao cap rvs (w.heap.size + 1) (zeros S) S (w1.alloc (.cells #[.slice ao n cap, .int .i64 0, .int .i64 0] 30)) from
    ⟨rfl, HIN.out, by rw [add_self]; exact Box.new w1 _ _ rfl, (GA.out.mono (Nat.le_of_eq HSZ.out.symm) (Nat.le_refl _)).ext ((Ext.refl w1).alloc _), HGS.out, (u0.trans u1).alloc _⟩)
  have HUU := Lib.hid (u1.alloc (.cells #[.slice ao n cap, .int .i64 0, .int .i64 0] 30))
  clear GA bP g0 g1 g2 p0 p1 p2 u1 HGS
  go_wp2_with fail
  obtain ⟨B, hB⟩ : ∃ B, w1.heap.size = B := ⟨_, rfl⟩
  rw [hB] at HST sz1 ⊢
  have HBW := Lib.hid hB; clear hB hs1
  go_loopg [11] (zeros S) (fun gk s11 wr => ∃ P : List (List Int), GdSt x S down up G w B n ao cap rvs (w.heap.size + 1) gk P wr ∧ Ext (w.alloc (.cells #[.slice none 0 0, .int .i64 0, .int .i64 0] 30)) wr)
  case atStart => exact ⟨S, HST.out, HUU.out⟩
  case round =>
    clear HST
    obtain ⟨P, hS, hx1⟩ := hrel
    obtain ⟨wo, rfl⟩ : ∃ wo : World, wo = wr := ⟨_, rfl⟩
    have HS := Lib.hid hS; clear hS
    have HX1 := Lib.hid hx1; clear hx1
    have HRP := Lib.hid (show Rc n m P from by have := pat_rc (inpB_true HS.out.inp).1; rwa [HN.out, HM.out] at this)
    have H01 := Lib.hid (show ∀ i j, i < n → j < m → elOf P i j = 0 ∨ elOf P i j = 1 from fun i j hi hj => pat01 (inpB_true HS.out.inp).1 (by rw [HN.out]; exact hi) (by rw [HM.out]; exact hj))
    have k0 := HS.out.box.cell 0 (by simp)
    have GP := Lib.hid (show ∀ w', Ext wo w' → Grid w' (.slice ao n cap) P from fun w' u => ⟨ao, cap, by rw [HRP.out.len], by rw [HRP.out.len]; exact HQ.out.1, HQ.out.2, (HS.out.own.ext u).grid⟩)
    have LR := Lib.hid (fun t (ht : t < (cellsL (openF x P down up) S).length) => cellsL_row (f := openF x P down up) (p := S) ht)
    obtain ⟨L, hL⟩ : ∃ L, cellsL (openF x P down up) S = L := ⟨_, rfl⟩
    rw [hL] at LR
    have HLL := Lib.hid hL; clear hL
    go_wp2_with fail
    refine (unprotected_c x P S _ _ _ down up _ HS.out.inp HL.out (H1.out.ext HS.out.ext) (GP.out _ (Ext.refl _)) (H2.out.ext HS.out.ext)).mono ?_
    rintro e w4 ⟨vL, rL, rfl, oL, u4⟩
    rw [HLL.out] at oL
    obtain ⟨aL, cL, rfl, l4, l5, l6⟩ := oL
    have GL := Lib.hid l6.grid; clear l6 l5
    clear k0
    by_cases hz : L.length = 0
    · -- BEGIN cut ret
      have hGe := (gdAt_done (by rw [HLL.out]; exact hz)).symm.trans HS.out.run
      have HGe := Lib.hid hGe.symm; clear hGe
      rw [hz]
      clear hz l4
      have b4 := HS.out.box.ext u4
      have k0 := b4.cell 0 (by simp)
      have k1 := b4.cell 1 (by simp)
      have k2 := b4.cell 2 (by simp)
      have br := (HB0.out.ext HX1.out).ext u4
      have q0 := br.cell 0 (by simp)
      have q1 := br.cell 1 (by simp)
      have q2 := br.cell 2 (by simp)
      have f0 := br.free 0
      have f1 := br.free 1
      have f2 := br.free 2
      have hO := HS.out.own.ext u4
      have hE := HS.out.ext.trans u4
      have HE := Lib.hid (And.intro hO hE); clear hO hE
      obtain ⟨A, hA⟩ : ∃ A : Int, ((cellsL (addF S) P).length : Int) = A := ⟨_, rfl⟩
      obtain ⟨V, hV⟩ : ∃ V, sumR x (cellsL (addF S) P) = V := ⟨_, rfl⟩
      rw [hA] at k1
      rw [hV] at k2
      have HAV := Lib.hid (And.intro hA hV); clear hA hV br b4
      go_wp2
      refine bodyPost_ret (v := .tuple #[.agg #[.slice ao n cap, .int .i64 A, .int .i64 V], .bool true]) (by simp [results, Try.results14, go_sem, q0, q1, q2]) rfl ⟨_, by rw [HGe.out]; rfl, ?_, ?_⟩
      · rw [HGe.out]
        have hw4 := HE.out.2.size
        have U := ((((show Upd (fun b => b = w.heap.size) w4 w4 from Upd.refl w4)).setCell (a := ⟨w.heap.size, 0, none⟩) (.slice ao n cap) (fun _ => rfl)).setCell (a := ⟨w.heap.size, 1, none⟩) (.int .i64 A) (fun _ => rfl)).setCell (a := ⟨w.heap.size, 2, none⟩) (.int .i64 V) (fun _ => rfl)
        have hlt4 := (HS.out.box.ext u4).lt
        exact ⟨_, _, _, rvs, rfl, ⟨ao, cap, by show Value.slice _ _ _ = .slice _ P.length _; rw [HRP.out.len], by show P.length ≤ _; rw [HRP.out.len]; exact HQ.out.1, HQ.out.2, (HE.out.1.away U (fun b hb => .inl (by subst hb; omega))).mono (Nat.le_succ _) (by simp [World.setCell]; omega)⟩, by rw [← HAV.out.1]; rfl, by rw [← HAV.out.2]; rfl⟩
      · exact ((HE.out.2.setCell _ (Nat.le_refl _)).setCell _ (Nat.le_refl _)).setCell _ (Nat.le_refl _)
      -- END cut ret
    · have hlp : 0 < L.length := by omega
      obtain ⟨i, j, hi, hj, _, er⟩ := LR.out 0 hlp
      rw [HRS.out.len] at hi
      rw [HRS.out.row i hi] at hj
      obtain ⟨bL, oL, ar, cr, rfl, hc0, r1, r2, r3⟩ := GL.out.at0 hlp
      have hI : Ints w4 (.slice ar (rowAt L 0).length cr) (pairI i j) := by rw [← er]; exact ⟨ar, cr, rfl, r1, r2, r3⟩
      have el : (rowAt L 0).length = 2 := by rw [er]; rfl
      rw [el] at hc0 hI
      have ENX := Lib.hid (show gdNext x P (ix (rowAt L 0) 0) (ix (rowAt L 0) 1) = gdNext x P i j by rw [er]; rfl)
      clear r1 r2 r3 el er
      obtain ⟨b3, o3, c3, e3, h23, y0, y1⟩ := Own.ints2 hI
      simp only [Value.slice.injEq, true_and] at e3
      obtain ⟨rfl, rfl⟩ := e3
      clear hI
      have HHL := Lib.hid hlp
      have hL0 : (L.length : Int) ≠ 0 := by omega
      have hLb : ((L.length : Int) == 0) = false := by simp; exact fun h => hz (by rw [h]; rfl)
      have hL1 : (0 : Int) < (L.length : Int) := by omega
      go_upto_region 7 with fail
      go_cut [12, 13] from 39 to 49 (fun s12 s13 wx => ∃ b1 b2, s12 = .pointer (some ⟨b1, 0, none⟩) ∧ s13 = .pointer (some ⟨b2, 0, none⟩) ∧ wx.cell? ⟨b1, 0, none⟩ = some (.int .i64 i) ∧ wx.cell? ⟨b2, 0, none⟩ = some (.int .i64 j) ∧ Ext w4 wx)
      case first =>
        -- BEGIN cut boxes
        have M0 := (Ext.refl w4).alloc (.cells #[.int .i64 0] 3)
        have nhc00 := Ext.cell M0 hc0
        have ny00 := Ext.cell M0 y0
        have ny10 := Ext.cell M0 y1
        have M1 := (Ext.refl w4).alloc (.cells #[.int .i64 i] 3)
        have nhc01 := Ext.cell M1 hc0
        have ny01 := Ext.cell M1 y0
        have ny11 := Ext.cell M1 y1
        have M2 := (Ext.refl w4).alloc (.cells #[.int .i64 j] 3)
        have nhc02 := Ext.cell M2 hc0
        have ny02 := Ext.cell M2 y0
        have ny12 := Ext.cell M2 y1
        have M3 := ((Ext.refl w4).alloc (.cells #[.int .i64 0] 3)).alloc (.cells #[.int .i64 0] 3)
        have nhc03 := Ext.cell M3 hc0
        have ny03 := Ext.cell M3 y0
        have ny13 := Ext.cell M3 y1
        have M4 := ((Ext.refl w4).alloc (.cells #[.int .i64 0] 3)).alloc (.cells #[.int .i64 i] 3)
        have nhc04 := Ext.cell M4 hc0
        have ny04 := Ext.cell M4 y0
        have ny14 := Ext.cell M4 y1
        have M5 := ((Ext.refl w4).alloc (.cells #[.int .i64 i] 3)).alloc (.cells #[.int .i64 0] 3)
        have nhc05 := Ext.cell M5 hc0
        have ny05 := Ext.cell M5 y0
        have ny15 := Ext.cell M5 y1
        have M6 := ((Ext.refl w4).alloc (.cells #[.int .i64 0] 3)).alloc (.cells #[.int .i64 j] 3)
        have nhc06 := Ext.cell M6 hc0
        have ny06 := Ext.cell M6 y0
        have ny16 := Ext.cell M6 y1
        have M7 := ((Ext.refl w4).alloc (.cells #[.int .i64 j] 3)).alloc (.cells #[.int .i64 0] 3)
        have nhc07 := Ext.cell M7 hc0
        have ny07 := Ext.cell M7 y0
        have ny17 := Ext.cell M7 y1
        go_region
        all_goals
          go_wp2_with fail
          go_meet
          first
            | exact ⟨_, _, rfl, rfl, (((Box.new w4 3 #[.int .i64 i] rfl).alloc _).ext (Ext.refl _).drew).cell 0 (by simp), ((Box.new (w4.alloc _) 3 #[.int .i64 j] (by simp)).ext (Ext.refl _).drew).cell 0 (by simp), (((Ext.refl w4).alloc _).alloc _).drew⟩
            | exact ⟨_, _, rfl, rfl, ((Box.new (w4.alloc _) 3 #[.int .i64 i] (by simp)).ext (Ext.refl _).drew).cell 0 (by simp), (((Box.new w4 3 #[.int .i64 j] rfl).alloc _).ext (Ext.refl _).drew).cell 0 (by simp), (((Ext.refl w4).alloc _).alloc _).drew⟩
        -- END cut boxes
      case rest =>
        obtain ⟨b1, b2, rfl, rfl, c1, c2, u5⟩ := hcut
        obtain ⟨w5, rfl⟩ : ∃ w5 : World, w5 = wc := ⟨_, rfl⟩
        have HU5 := Lib.hid (u4.trans u5); clear u4 u5 hc0 y0 y1 hLb hL0 hL1 hz
        have C1 := Lib.hid c1; clear c1
        have C2 := Lib.hid c2; clear c2
        have k0 := (HS.out.box.ext HU5.out).cell 0 (by simp)
        go_wp2_with fail
        refine (cheapestCell_c x P (rowQ i) 46 #[.pointer (some ⟨b1, 0, none⟩)] _ _ n m _ (H1.out.ext (HS.out.ext.trans HU5.out)) (GP.out _ HU5.out) HRX.out HRP.out hd H01.out gdE1 (fun w' v' a d u h _ _ => gdC1_c v' a d i b1 w' h (Ext.cell u C1.out))).mono ?_
        rintro e w6 ⟨vb, rfl, hb, u6⟩
        have HU6 := Lib.hid (HU5.out.trans u6)
        have HS6 := Lib.hid u6.size
        have C26 := Lib.hid (Ext.cell u6 C2.out); clear u6 k0
        have HB6 := Lib.hid hb; clear hb
        obtain ⟨E1, hE1⟩ : ∃ E, (gdL x (rowQ i) (cellsL zeroF P)).isNone = E := ⟨_, rfl⟩
        have HE1 := Lib.hid hE1; clear hE1
        go_upto_region 9 with fail
        go_cut [14, 56] from 55 to 56 (fun s14 s56 wx => s14 = vb ∧ s56 = .bool E1 ∧ w6 = wx)
        case first =>
          rcases HB6.out with ⟨hn1, rfl⟩ | ⟨a, d, p, o, cp, ha, hdm, hlp, hb1, rfl, hcp, z0, z1⟩
          · have hE : E1 = true := by rw [← HE1.out, hn1]; rfl
            subst hE
            clear hn1
            go_wp2_with fail
            go_meet
            exact ⟨rfl, rfl, rfl⟩
          · have hE : E1 = false := by rw [← HE1.out, hb1]; rfl
            subst hE
            clear hb1
            go_wp2_with fail
            go_meet
            exact ⟨rfl, rfl, rfl⟩
        case rest =>
        obtain ⟨rfl, rfl, rfl⟩ := hcut
        go_upto_if 56 with fail
        go_cut [14] from 57 to 61 (fun s14 wx => BestV w5.heap.size wx s14 ((gdL x (rowQ i) (cellsL zeroF P)).or (gdL x (colQ j) (cellsL zeroF P))) n m ∧ Ext w6 wx)
        case first =>
          -- BEGIN cut second
          rcases HB6.out with ⟨hn1, rfl⟩ | ⟨a, d, p, o, cp, ha, hdm, hlp, hb1, rfl, hcp, z0, z1⟩
          · have hE : E1 = true := by rw [← HE1.out, hn1]; rfl
            subst hE
            have HN1 := Lib.hid hn1; clear hn1
            have k0 := (HS.out.box.ext HU6.out).cell 0 (by simp)
            go_wp2_with fail
            refine (cheapestCell_c x P (colQ j) 47 #[.pointer (some ⟨b2, 0, none⟩)] _ _ n m _ (H1.out.ext (HS.out.ext.trans HU6.out)) (GP.out _ HU6.out) HRX.out HRP.out hd H01.out gdE2 (fun w' v' a d u h _ _ => gdC2_c v' a d j b2 w' h (Ext.cell u C26.out))).mono ?_
            rintro e w7 ⟨vb, rfl, hb, u7⟩
            have HB7 := Lib.hid (hb.mono HS6.out); clear hb
            go_wp2_with fail
            go_meet
            exact ⟨by rw [HN1.out, Option.none_or]; exact HB7.out, u7⟩
          · have hE : E1 = false := by rw [← HE1.out, hb1]; rfl
            subst hE
            have HN1 := Lib.hid hb1; clear hb1
            go_wp2_with fail
            go_meet
            exact ⟨.inr ⟨a, d, p, o, cp, ha, hdm, hlp, by rw [HN1.out]; rfl, rfl, hcp, z0, z1⟩, Ext.refl _⟩
          -- END cut second
        case rest =>
          obtain ⟨hb, u7⟩ := hcut
          obtain ⟨w7, rfl⟩ : ∃ w7 : World, w7 = wc := ⟨_, rfl⟩
          have HB7 := Lib.hid hb; clear hb
          have HU7 := Lib.hid (HU6.out.trans u7)
          have HS7 := Lib.hid (Nat.le_trans HS6.out u7.size); clear u7
          obtain ⟨E2, hE2⟩ : ∃ E, ((gdL x (rowQ i) (cellsL zeroF P)).or (gdL x (colQ j) (cellsL zeroF P))).isNone = E := ⟨_, rfl⟩
          have HE2 := Lib.hid hE2; clear hE2
          obtain ⟨vb2, hvb2⟩ : ∃ v, u14 = v := ⟨_, rfl⟩
          subst hvb2
          go_upto_region 11 with fail
          go_cut [14, 63] from 62 to 63 (fun s14 s63 wx => s14 = u14 ∧ s63 = .bool E2 ∧ w7 = wx)
          case first =>
            rcases HB7.out with ⟨hn1, rfl⟩ | ⟨a, d, p, o, cp, ha, hdm, hlp, hb1, rfl, hcp, z0, z1⟩
            · have hE : E2 = true := by rw [← HE2.out, hn1]; rfl
              subst hE
              clear hn1
              go_wp2_with fail
              go_meet
              exact ⟨rfl, rfl, rfl⟩
            · have hE : E2 = false := by rw [← HE2.out, hb1]; rfl
              subst hE
              clear hb1
              go_wp2_with fail
              go_meet
              exact ⟨rfl, rfl, rfl⟩
          case rest =>
          obtain ⟨rfl, rfl, rfl⟩ := hcut
          go_upto_if 63 with fail
          go_cut [14] from 64 to 67 (fun s14 wx => BestV w5.heap.size wx s14 (gdNext x P i j) n m ∧ Ext w7 wx)
          case first =>
            -- BEGIN cut third
            rcases HB7.out with ⟨hn1, rfl⟩ | ⟨a, d, p, o, cp, ha, hdm, hlp, hb1, rfl, hcp, z0, z1⟩
            · have hE : E2 = true := by rw [← HE2.out, hn1]; rfl
              subst hE
              have HN1 := Lib.hid hn1; clear hn1
              have k0 := (HS.out.box.ext HU7.out).cell 0 (by simp)
              go_wp2_with fail
              refine (cheapestCell_c x P allQ 48 #[] _ _ n m _ (H1.out.ext (HS.out.ext.trans HU7.out)) (GP.out _ HU7.out) HRX.out HRP.out hd H01.out gdE3 (fun w' v' a d u h _ _ => gdC3_c v' a d w')).mono ?_
              rintro e w8 ⟨vb, rfl, hb, u8⟩
              have HB8 := Lib.hid (hb.mono HS7.out); clear hb
              go_wp2_with fail
              go_meet
              exact ⟨by unfold gdNext; rw [← Option.or_assoc, HN1.out, Option.none_or]; exact HB8.out, u8⟩
            · have hE : E2 = false := by rw [← HE2.out, hb1]; rfl
              subst hE
              have HN1 := Lib.hid hb1; clear hb1
              go_wp2_with fail
              go_meet
              exact ⟨.inr ⟨a, d, p, o, cp, ha, hdm, hlp, by unfold gdNext; rw [← Option.or_assoc, HN1.out]; rfl, rfl, hcp, z0, z1⟩, Ext.refl _⟩
            -- END cut third
          case rest =>
            obtain ⟨hb, u8⟩ := hcut
            obtain ⟨w8, rfl⟩ : ∃ w8 : World, w8 = wc := ⟨_, rfl⟩
            have HU8 := Lib.hid (HU7.out.trans u8); clear u8 HB7 HB6 C26 C1 C2
            rcases hb with ⟨hn1, rfl⟩ | ⟨a, d, p, o, cp, ha, hdm, hlp, hb1, rfl, hcp, z0, z1⟩
            · -- BEGIN cut none
              have HGe := Lib.hid ((gdAt_none HLL.out HHL.out (by rw [ENX.out]; exact hn1)).symm.trans HS.out.run).symm
              clear hn1
              have br := (HB0.out.ext HX1.out).ext HU8.out
              have q0 := br.cell 0 (by simp)
              have q1 := br.cell 1 (by simp)
              have q2 := br.cell 2 (by simp)
              have f0 := br.free 0
              have f1 := br.free 1
              have f2 := br.free 2
              have hE := HS.out.ext.trans HU8.out
              clear br
              go_wp2
              refine bodyPost_ret (v := .tuple #[.agg #[.slice none 0 0, .int .i64 0, .int .i64 0], .bool false]) (by simp [results, Try.results14, go_sem, q0, q1, q2]) rfl ⟨_, by rw [HGe.out]; rfl, by rw [HGe.out]; exact nothing _, ?_⟩
              first | exact hE | exact ((hE.setCell _ (Nat.le_refl _)).setCell _ (Nat.le_refl _)).setCell _ (Nat.le_refl _)
              -- END cut none
            · have S8 := Lib.hid (HS.out.ext' HU8.out)
              have HNX := Lib.hid (ENX.out.trans hb1); clear hb1
              have hz9 : a < P.length := by rw [HRP.out.len]; exact ha
              have hrl : d < (rowAt P a).length := by rw [HRP.out.row a ha]; exact hdm
              obtain ⟨bq, oq, rfl, l1, l2, l3, hc, hf⟩ := S8.out.own.at_ hz9
              obtain ⟨ar, cr2, ev, r1, r2⟩ := S8.out.own.rowForm hz9
              rw [HRP.out.row a ha] at ev r1
              rw [ev] at hc
              obtain ⟨b6, o6, rfl, m1, m2, m3, hc6, hf6, st⟩ := S8.out.own.store hz9 hrl ev
              have ST := Lib.hid st; clear st ev hf
              have k0 := S8.out.box.cell 0 (by simp)
              have hB5 : B < w5.heap.size := (HS.out.box.ext HU5.out).lt
              have HNE := Lib.hid (show p ≠ b6 ∧ p ≠ B ∧ b6 < B from by omega)
              have z0' := z0
              clear hz9 hrl
              go_upto_region 15 with fail
              go_cut [14] from 71 to 81 (fun s14 wx => s14 = .slice (some ⟨p, o, none⟩) 2 cp ∧ wx = (w8.setCell ⟨b6, o6 + d, none⟩ (.int .i64 1)).drew)
              case first =>
                go_region
                all_goals
                  go_wp2_with fail
                  go_meet
                  exact ⟨rfl, rfl⟩
              case rest =>
                obtain ⟨rfl, hw9⟩ := hcut
                have HW9 := Lib.hid hw9; clear hw9
                obtain ⟨w9, rfl⟩ : ∃ w9 : World, w9 = wc := ⟨_, rfl⟩
                clear k0 hc hc6 hf6 z0'
                have U9 := Lib.hid (show Upd (fun b => b = b6) w8 w9 by rw [HW9.out]; exact ((show Upd (fun b => b = b6) w8 w8 from Upd.refl w8).setCell (a := ⟨b6, o6 + d, none⟩) (.int .i64 1) (fun _ => rfl)).trans (Ext.refl _).drew.upd)
                have B9 := Lib.hid (S8.out.box.upd U9.out (fun e => by have := HNE.out.2.2; omega))
                have O9 := Lib.hid (show OwnGA (w.heap.size + 1) B w9 (some ⟨bq, oq, none⟩) rvs (setOne P a d) by rw [HW9.out]; exact (ST.out 1).ext (Ext.refl _).drew)
                have y0 := U9.out.cell z0 (fun e => HNE.out.1 e)
                have y1 := U9.out.cell z1 (fun e => HNE.out.1 e)
                clear z0 z1
                have hAB := addF_bounds S8.out.inp
                have HP0 := Lib.hid (gdNext_cell HRP.out HNX.out)
                obtain ⟨A, hA⟩ : ∃ A, (cellsL (addF S) P).length = A := ⟨_, rfl⟩
                obtain ⟨V, hV⟩ : ∃ V, sumR x (cellsL (addF S) P) = V := ⟨_, rfl⟩
                rw [hA, hV] at hAB B9
                have HA := Lib.hid hA; clear hA
                have HV := Lib.hid hV; clear hV
                have k1 := B9.out.cell 1 (by simp)
                have f1 := B9.out.free 1
                have wA : IntKind.i64.wrap ((A : Int) + 1) = (A : Int) + 1 := IntWalk.i64_in _ (by omega)
                have hEX := pub_el (inpB_true S8.out.inp).1 (i := a) (j := d) (by rw [HN.out]; exact ha) (by rw [HM.out]; exact hdm)
                go_upto_region 17 with fail
                have B10 := B9.out.set 1 (.int .i64 ((A : Int) + 1))
                have U10 := (Upd.refl w9).setCell (S := fun b => b = B) (a := ⟨B, 1, none⟩) (.int .i64 ((A : Int) + 1)) (fun _ => rfl)
                obtain ⟨w10, hw10⟩ : ∃ w10, w10 = w9.setCell ⟨B, 1, none⟩ (.int .i64 ((A : Int) + 1)) := ⟨_, rfl⟩
                rw [← hw10] at B10 U10 ⊢
                have HW10 := Lib.hid hw10; clear hw10 k1 f1
                have x0 := U10.cell y0 (fun e => HNE.out.2.1 e)
                have x1' := U10.cell y1 (fun e => HNE.out.2.1 e)
                clear y0 y1
                have hW8 := HS.out.ext.trans HU8.out
                have HX10 := Lib.hid ((hW8.of_upd U9.out (fun b hb => by rw [hb]; omega)).of_upd U10 (fun b hb => by rw [hb]; exact Nat.le_of_lt sz1))
                have HA10 := Lib.hid (((HX1.out.trans HU8.out).of_upd U9.out (fun b hb => by rw [hb, HSZ.out]; omega)).of_upd U10 (fun b hb => by rw [hb, HSZ.out]; exact sz1))
                have O10 := Lib.hid (O9.out.away U10 (fun b hb => .inr (by rw [hb]; exact Nat.le_refl _)))
                obtain ⟨bx, ox, a6, c6, rfl, g4, s1, s2, s3⟩ := (GX.out.ext HX10.out).at_ (k := a) (by rw [HN.out]; exact ha)
                rw [HRX.out.row a ha] at g4 s1
                obtain ⟨b7, o7, rfl, g5⟩ := s3 d (by rw [HRX.out.row a ha]; exact hdm)
                clear s3 s2 hW8 U10
                obtain ⟨X, hX⟩ : ∃ X, elOf x a d = X := ⟨_, rfl⟩
                rw [show ix (rowAt x a) d = elOf x a d from rfl, hX] at g5
                rw [hX] at hEX
                have HX := Lib.hid hX; clear hX
                have wV : IntKind.i64.wrap (V + X) = V + X := IntWalk.i64_in _ (by omega)
                have k2 := B10.cell 2 (by simp)
                have f2 := B10.free 2
                have HB10 := Lib.hid B10; clear B10
                replace k2 := show w10.drew.cell? _ = _ from k2
                replace f2 := show w10.drew.frozen? _ = _ from f2
                replace g4 := show w10.drew.cell? _ = _ from g4
                replace g5 := show w10.drew.cell? _ = _ from g5
                replace x0 := show w10.drew.cell? _ = _ from x0
                replace x1' := show w10.drew.cell? _ = _ from x1'
                refine wp_region_still_tail 15 (by kernel_rfl) (by kernel_rfl) ?_
                change wpStill _ _ w10.drew (fun a' => wpList _ _ _ _ a' w10.drew) _ _
                simp only [List.take_succ_cons, List.take_zero, List.drop_succ_cons, List.drop_zero]
                obtain ⟨wp, hwp⟩ : ∃ wp, wp = w10.drew := ⟨_, rfl⟩
                rw [← hwp] at k2 f2 g4 g5 x0 x1' ⊢
                have EP := Lib.hid (show Ext w10 wp by rw [hwp]; exact (Ext.refl _).drew)
                have HWP := Lib.hid hwp; clear hwp
                repeat still_step
                refine wpStill_nil ?_
                go_wp2_with fail
                clear k2 f2 g4 g5 x0 x1'
                have HZ0 := Lib.hid (show elOf P a d = 0 by
                  obtain ⟨a', d', _, _, e0, e1⟩ := HP0.out
                  have := pairI_inj e1
                  rw [this.1, this.2]; exact e0)
                have HS0 := Lib.hid (show elOf S a d = 0 from (H01S.out a d ha hdm).resolve_right (fun h => by
                  have := inp_one S8.out.inp (i := a) (j := d) (by rw [HN.out]; exact ha) (by rw [HM.out]; exact hdm) h
                  rw [HZ0.out] at this; omega))
                have HZS := Lib.hid (zeros_set HRP.out ha hdm HZ0.out)
                have HGK := Lib.hid S8.out.k
                have U11 := (show Upd (fun b => b = B) wp wp from Upd.refl wp).setCell (a := ⟨B, 2, none⟩) (.int .i64 (V + X)) (fun _ => rfl)
                have HU11 := Lib.hid U11; clear U11
                go_roundg (gk - 1)
                case measure => have := HZS.out; have := HGK.out; omega
                case rel =>
                  refine ⟨setOne P a d, ⟨by have := HZS.out; have := HGK.out; omega, inp_set S8.out.inp (by rw [HN.out]; exact ha) (by rw [HM.out]; exact hdm), ?_, ?_, ?_, ?_⟩, ?_⟩
                  · rw [add_set HRP.out ha hdm HZ0.out HS0.out, val_set HRP.out ha hdm HZ0.out HS0.out, HA.out, HV.out, HX.out]
                    exact (HB10.out.ext EP.out).set 2 _
                  · exact (O10.out.ext EP.out).away HU11.out (fun b hb => .inr (by rw [hb]; exact Nat.le_refl _))
                  · rw [← S8.out.run]
                    exact (gdAt_step HRP.out HLL.out HHL.out ha hdm HZ0.out HNX.out).symm
                  · exact (HX10.out.trans EP.out).of_upd HU11.out (fun b hb => by rw [hb]; exact Nat.le_of_lt sz1)
                  · exact (HA10.out.trans EP.out).of_upd HU11.out (fun b hb => by rw [hb, HSZ.out]; exact sz1)
end Go.Proofs.Ytodnkahnbidgaaa
namespace Go.Proofs.Ytodnkahnbidgaaa
open Go.RowKit
open Fm

/-- the cells of a list of positions, hidden too -/
def setTo (P : List (List Int)) (m : Nat) (cs : List Int) : Nat → List (List Int)
  | 0 => P
  | t + 1 => setOne (setTo P m cs t) ((ix cs t).toNat / m) ((ix cs t).toNat % m)
theorem setTo_rc {n m : Nat} {P : List (List Int)} (h : Rc n m P) (cs : List Int) : ∀ t, Rc n m (setTo P m cs t)
  | 0 => h
  | t + 1 => setOne_rc (setTo_rc h cs t) _ _

set_option maxRecDepth 100000 in
set_option maxHeartbeats 6400000 in
theorem vWith_c (v1 v2 : Value) (P : List (List Int)) (cs : List Int) (n m : Nat) (w : World) (h1 : Grid w v1 P) (h2 : Ints w v2 cs) (hr : Rc n m P) (hd : 1 ≤ n ∧ n ≤ 8 ∧ 1 ≤ m ∧ m ≤ 8) (hl : cs.length ≤ 64) (hc : ∀ t, t < cs.length → ∃ k : Nat, ix cs t = (k : Int) ∧ k < n * m) :
    Calls Try.prog 41 #[v1, v2] w (RetGrid (fun v' => v') w (setTo P m cs cs.length)) := by
  have H1 := Lib.hid h1
  have RP := Lib.hid hr; clear hr
  have HC := Lib.hid hc; clear hc
  obtain ⟨ap, cp, rfl, p1, p2, p3⟩ := h1
  have GP := Lib.hid p3; clear p3
  obtain ⟨bp, op, ar0, cr0, rfl, hc0, r1, r2, r3⟩ := GP.out.at0 (by rw [RP.out.len]; omega)
  clear r3 r2
  rw [RP.out.row 0 (by omega)] at hc0 r1
  have n0 : (0 : Int) < (n : Int) := by omega
  have n1 : 0 < n := by omega
  rw [RP.out.len] at p1 ⊢
  obtain ⟨ac, cc, rfl, c1, c2, c3⟩ := h2
  have GC := Lib.hid c3; clear c3
  obtain ⟨K, hK⟩ : ∃ K, cs.length = K := ⟨_, rfl⟩
  rw [hK] at c1 hl HC ⊢
  have HK := Lib.hid hK; clear hK
  rw [RP.out.len] at H1
  go_enter Try.func41, Try.ntmps41
  go_wp2_with fail
  refine (tOwn_c _ P w H1.out (by rw [RP.out.len]; omega) (fun k hk => by rw [RP.out.row k (by rw [← RP.out.len]; exact hk)]; omega) (fun k hk e => by have := RP.out.row k (by rw [← RP.out.len]; exact hk); rw [e] at this; simp at this; omega)).mono ?_
  rintro e w1 ⟨v', rvs, rfl, og, u1⟩
  obtain ⟨ao, cap, rfl, q4, q5, q6⟩ := og
  have GA := Lib.hid q6; clear q6
  rw [RP.out.len] at q4 ⊢
  have hs1 := u1.size
  go_wp2_with fail
  go_loopw [12] (fun i wr => ∃ t : Nat, t ≤ K ∧ i = .int .i64 t ∧ OwnGA w.heap.size w1.heap.size wr ao rvs (setTo P m cs t) ∧ w1.heap.size ≤ wr.heap.size ∧ Ext w wr) (fun i _ => K - (intOf i).toNat)
  case atStart => exact ⟨0, Nat.zero_le _, rfl, GA.out, Nat.le_refl _, u1⟩
  case round =>
    obtain ⟨t, ht, rfl, hg, hsz, hx⟩ := hrel
    obtain ⟨wo, rfl⟩ : ∃ wo : World, wo = wr := ⟨_, rfl⟩
    have HG := Lib.hid hg; clear hg
    by_cases hlt : t < K
    · obtain ⟨k, hk, hkn⟩ := HC.out t hlt
      obtain ⟨bc, oc, rfl, hcc⟩ := GC.out t (by rw [HK.out]; exact hlt)
      rw [hk] at hcc
      have HKK := Lib.hid hk; clear hk
      obtain ⟨a, ha⟩ : ∃ a, k / m = a := ⟨_, rfl⟩
      obtain ⟨d, hdd⟩ : ∃ d, k % m = d := ⟨_, rfl⟩
      have han : a < n := by rw [← ha]; exact Nat.div_lt_of_lt_mul (by rw [Nat.mul_comm]; exact hkn)
      have hdm : d < m := by rw [← hdd]; exact Nat.mod_lt _ (by omega)
      have g1 : (k : Int) / (m : Int) = (a : Int) := by rw [← ha]; simp
      have g2 : (k : Int).tdiv (m : Int) = (a : Int) := by rw [Int.tdiv_eq_ediv_of_nonneg (by omega)]; exact g1
      have g3 : (k : Int) % (m : Int) = (d : Int) := by rw [← hdd]; simp
      have g4 : (k : Int).tmod (m : Int) = (d : Int) := by rw [Int.tmod_eq_emod_of_nonneg (by omega)]; exact g3
      have g5 : IntKind.i64.wrap (a : Int) = (a : Int) := IntWalk.i64_in _ (by omega)
      have g9 : IntKind.i64.wrap (d : Int) = (d : Int) := IntWalk.i64_in _ (by omega)
      have g6 : (m : Int) ≠ 0 := by omega
      have g7 : ¬ m = 0 := by omega
      have g8 : 0 < m := by omega
      have g10 : (a : Int) < (n : Int) := by omega
      have g11 : (d : Int) < (m : Int) := by omega
      have HST := Lib.hid (show setTo P m cs (t + 1) = setOne (setTo P m cs t) a d by show setOne _ _ _ = _; rw [HKK.out, Int.toNat_natCast, ha, hdd])
      clear ha hdd hkn
      obtain ⟨Q, hQ⟩ : ∃ Q, setTo P m cs t = Q := ⟨_, rfl⟩
      have RQ := Lib.hid (show Rc n m Q by rw [← hQ]; exact setTo_rc RP.out cs t)
      rw [hQ] at HG HST
      clear hQ
      have hz9 : a < Q.length := by rw [RQ.out.len]; exact han
      have hrl : d < (rowAt Q a).length := by rw [RQ.out.row a han]; exact hdm
      obtain ⟨bq, oq, rfl, l1, l2, l3, hc, hf⟩ := HG.out.at_ hz9
      obtain ⟨ar, cr2, ev, s1, s2⟩ := HG.out.rowForm hz9
      rw [RQ.out.row a han] at ev s1
      rw [ev] at hc
      obtain ⟨b6, o6, rfl, m1, m2, m3, hc6, hf6, st⟩ := HG.out.store hz9 hrl ev
      have ST := Lib.hid st; clear st ev hf hz9 hrl
      have hp0 := Ext.cell hx hc0
      have hcw := Ext.cell hx hcc
      clear hcc
      go_upto_region 5 with fail
      replace hc := show wo.drew.cell? _ = _ from hc
      replace hc6 := show wo.drew.cell? _ = _ from hc6
      replace hf6 := show wo.drew.frozen? _ = _ from hf6
      replace hp0 := show wo.drew.cell? _ = _ from hp0
      refine wp_region_still_tail 16 (by kernel_rfl) (by kernel_rfl) ?_
      change wpStill _ _ wo.drew (fun a' => wpList _ _ _ _ a' wo.drew) _ _
      simp only [List.take_succ_cons, List.take_zero, List.drop_succ_cons, List.drop_zero]
      obtain ⟨wp, hwp⟩ : ∃ wp, wp = wo.drew := ⟨_, rfl⟩
      rw [← hwp] at hc hc6 hf6 hp0 ⊢
      have EP := Lib.hid (show Ext wo wp by rw [hwp]; exact (Ext.refl _).drew)
      have HWP := Lib.hid hwp; clear hwp
      repeat still_step
      refine wpStill_nil ?_
      go_wp2_with fail
      go_roundw
      case rel => exact ⟨t + 1, by omega, by go_num, by rw [HST.out, HWP.out]; exact (show OwnGA _ _ (wo.setCell ⟨b6, o6 + d, none⟩ (.int .i64 1)).drew _ _ _ from (ST.out 1).ext (Ext.refl _).drew), by rw [HWP.out]; simp [World.setCell]; exact hsz, (hx.trans EP.out).setCell _ (by simp; omega)⟩
      case measure => simp [intOf]; omega
    · have hke : t = K := by omega
      subst hke
      go_wp2
      go_ret
      exact ⟨.slice ao n cap, rvs, rfl, ⟨ao, cap, by rw [(setTo_rc RP.out cs t).len], by rw [(setTo_rc RP.out cs t).len]; exact q4, q5, HG.out.mono (Nat.le_refl _) hsz⟩, hx⟩
/-- the test of a stage -/
def stC (s : Nat) (I J : Int) : List Int → Bool := if s = 0 then rowQ I else if s = 1 then colQ J else allQ
theorem gdNext_none {x P : List (List Int)} {I J : Int} (h : ∀ s, s < 3 → gdL x (stC s I J) (cellsL zeroF P) = none) : gdNext x P I J = none := by
  have h0 : gdL x (rowQ I) (cellsL zeroF P) = none := h 0 (by omega)
  have h1 : gdL x (colQ J) (cellsL zeroF P) = none := h 1 (by omega)
  have h2 : gdL x allQ (cellsL zeroF P) = none := h 2 (by omega)
  unfold gdNext
  rw [h0, h1, h2]; rfl
theorem gdNext_at {x P : List (List Int)} {I J : Int} {s : Nat} (hs : s < 3) (h : ∀ s', s' < s → gdL x (stC s' I J) (cellsL zeroF P) = none) {r : List Int} (hr : gdL x (stC s I J) (cellsL zeroF P) = some r) : gdNext x P I J = some r := by
  unfold gdNext
  match s, hs with
  | 0, _ =>
    have h0 : gdL x (rowQ I) (cellsL zeroF P) = some r := hr
    rw [h0]; rfl
  | 1, _ =>
    have h0 : gdL x (rowQ I) (cellsL zeroF P) = none := h 0 (by omega)
    have h1 : gdL x (colQ J) (cellsL zeroF P) = some r := hr
    rw [h0, h1]; rfl
  | 2, _ =>
    have h0 : gdL x (rowQ I) (cellsL zeroF P) = none := h 0 (by omega)
    have h1 : gdL x (colQ J) (cellsL zeroF P) = none := h 1 (by omega)
    have h2 : gdL x allQ (cellsL zeroF P) = some r := hr
    rw [h0, h1, h2]; rfl
/-- what the position of the best cell is -/
def BestI (v : Int) (b : Option (List Int)) (n m : Nat) : Prop := (b = none ∧ v = -1) ∨ ∃ a d, a < n ∧ d < m ∧ b = some (pairI a d) ∧ v = ((a * m + d : Nat) : Int)
theorem gdS_off {x : List (List Int)} {c : List Int → Bool} {b : Option (List Int)} {r : List Int} (h : c r = false) : gdF x c b r = b := by simp [gdF, h]
theorem gdS_first {x : List (List Int)} {c : List Int → Bool} {r : List Int} (h : c r = true) : gdF x c none r = some r := by simp [gdF, h]
theorem gdS_less {x : List (List Int)} {c : List Int → Bool} {i j a b : Nat} (h : c (pairI i j) = true) (hl : elOf x i j < elOf x a b) : gdF x c (some (pairI a b)) (pairI i j) = some (pairI i j) := by simp [gdF, h, valR_pair, hl]
theorem gdS_more {x : List (List Int)} {c : List Int → Bool} {i j a b : Nat} (hl : ¬ elOf x i j < elOf x a b) : gdF x c (some (pairI a b)) (pairI i j) = some (pairI a b) := by
  unfold gdF
  split
  · simp only [valR_pair, hl, if_false]
  · rfl
/-- how a position parts -/
theorem pos_parts {a d m k : Nat} (hd : d < m) (hk : a * m + d = k) : k / m = a ∧ k % m = d := by
  have hm : 0 < m := by omega
  subst hk
  constructor
  · rw [Nat.mul_comm, Nat.mul_add_div hm, Nat.div_eq_of_lt hd]; omega
  · rw [Nat.mul_comm, Nat.mul_add_mod, Nat.mod_eq_of_lt hd]

set_option maxRecDepth 100000 in
set_option maxHeartbeats 12800000 in
theorem vNext_c (x P : List (List Int)) (v1 v2 : Value) (I J : Int) (n m : Nat) (w : World) (hx : Grid w v1 x) (hP : Grid w v2 P) (rx : Rc n m x) (hr : Rc n m P) (hd : 1 ≤ n ∧ n ≤ 8 ∧ 1 ≤ m ∧ m ≤ 8) (h01 : ∀ i j, i < n → j < m → elOf P i j = 0 ∨ elOf P i j = 1) :
    Calls Try.prog 40 #[v1, v2, .int .i64 I, .int .i64 J] w fun e w' => ∃ K : Int, e = .returned (.int .i64 K) ∧ BestI K (gdNext x P I J) n m ∧ Drew w w' := by
  have RX := Lib.hid rx; clear rx
  have RP := Lib.hid hr; clear hr
  have H01 := Lib.hid h01; clear h01
  obtain ⟨ax, cx, rfl, x1, x2, x3⟩ := hx
  have GX := Lib.hid x3; clear x3
  obtain ⟨ap, cp, rfl, p1, p2, p3⟩ := hP
  have GP := Lib.hid p3; clear p3
  rw [RX.out.len] at x1 ⊢
  rw [RP.out.len] at p1 ⊢
  obtain ⟨bx, ox, ar0, cr0, rfl, hc0, r1, r2, r3⟩ := GX.out.at0 (by rw [RX.out.len]; omega)
  clear r3 r2
  rw [RX.out.row 0 (by omega)] at hc0 r1
  obtain ⟨bp, op, ar1, cr1, rfl, _, _, _, _⟩ := GP.out.at0 (by rw [RP.out.len]; omega)
  have n0 : (0 : Int) < (n : Int) := by omega
  have n1 : 0 < n := by omega
  obtain ⟨N, hN⟩ : ∃ N, n * m = N := ⟨_, rfl⟩
  have hNb : N ≤ 64 := by rw [← hN]; exact Nat.mul_le_mul hd.2.1 hd.2.2.2
  have hNi : (n : Int) * (m : Int) = (N : Int) := by rw [← hN]; simp
  have wN : IntKind.i64.wrap (N : Int) = (N : Int) := IntWalk.i64_in _ (by omega)
  have HNN := Lib.hid hN; clear hN
  go_enter Try.func40, Try.ntmps40
  go_wp2_with fail
  go_loopw [10] (fun st wr => ∃ s : Nat, s ≤ 3 ∧ st = .int .i64 s ∧ (∀ s', s' < s → gdL x (stC s' I J) (cellsL zeroF P) = none) ∧ Drew w wr) (fun st _ => 3 - (intOf st).toNat)
  case atStart => exact ⟨0, by omega, rfl, fun s' h => by omega, Drew.refl w⟩
  case round =>
    obtain ⟨s, hs, rfl, hno, hxw⟩ := hrel
    obtain ⟨wo, rfl⟩ : ∃ wo : World, wo = wr := ⟨_, rfl⟩
    have HNO := Lib.hid hno; clear hno
    by_cases hlt : s < 3
    · have hlti : (s : Int) < 3 := by omega
      obtain ⟨c, hc⟩ : ∃ c, stC s I J = c := ⟨_, rfl⟩
      have HC := Lib.hid hc; clear hc
      go_wp2_with fail
      go_loopw [11, 12] (fun be kk wr => ∃ (q : Nat) (bI : Int), q ≤ N ∧ kk = .int .i64 q ∧ be = .int .i64 bI ∧ BestI bI (gdL x c (cellsQ zeroF P m q)) n m ∧ Drew wo wr) (fun _ kk _ => N - (intOf kk).toNat)
      case atStart => exact ⟨0, -1, Nat.zero_le _, rfl, rfl, .inl ⟨by rw [cellsQ_zero]; rfl, rfl⟩, Drew.refl wo⟩
      case round =>
        obtain ⟨q, bI, hq, rfl, rfl, hb, hxi⟩ := hrel
        obtain ⟨wi, rfl⟩ : ∃ wi : World, wi = wr := ⟨_, rfl⟩
        have HB := Lib.hid hb; clear hb
        by_cases hqN : q < N
        · have hqi : (q : Int) < (N : Int) := by omega
          obtain ⟨a, ha⟩ : ∃ a, q / m = a := ⟨_, rfl⟩
          obtain ⟨d, hdd⟩ : ∃ d, q % m = d := ⟨_, rfl⟩
          have han : a < n := by rw [← ha]; exact Nat.div_lt_of_lt_mul (by rw [Nat.mul_comm, HNN.out]; exact hqN)
          have hdm : d < m := by rw [← hdd]; exact Nat.mod_lt _ (by omega)
          have hCQ := cellsQ_succ (f := zeroF) (q := q) RP.out (by omega) (by rw [HNN.out]; exact hqN)
          rw [ha, hdd] at hCQ
          have HCQ := Lib.hid hCQ; clear hCQ
          have HPOS := Lib.hid (show a * m + d = q by rw [← ha, ← hdd, Nat.mul_comm]; exact Nat.div_add_mod q m)
          have g1 : (q : Int) / (m : Int) = (a : Int) := by rw [← ha]; simp
          have g2 : (q : Int).tdiv (m : Int) = (a : Int) := by rw [Int.tdiv_eq_ediv_of_nonneg (by omega)]; exact g1
          have g3 : (q : Int) % (m : Int) = (d : Int) := by rw [← hdd]; simp
          have g4 : (q : Int).tmod (m : Int) = (d : Int) := by rw [Int.tmod_eq_emod_of_nonneg (by omega)]; exact g3
          have g5 : IntKind.i64.wrap (a : Int) = (a : Int) := IntWalk.i64_in _ (by omega)
          have g9 : IntKind.i64.wrap (d : Int) = (d : Int) := IntWalk.i64_in _ (by omega)
          have g6 : (m : Int) ≠ 0 := by omega
          have g7 : ¬ m = 0 := by omega
          have g8 : 0 < m := by omega
          have g10 : (a : Int) < (n : Int) := by omega
          have g11 : (d : Int) < (m : Int) := by omega
          clear ha hdd
          obtain ⟨bp', op', a2, c2, e9, hp1, s1, s2, s3⟩ := (GP.out.ext (hxw.trans hxi).ext).at_ (k := a) (by rw [RP.out.len]; exact han)
          obtain ⟨rfl, rfl⟩ : bp = bp' ∧ op = op' := by simpa using e9
          clear e9
          rw [RP.out.row a han] at hp1 s1
          obtain ⟨b4, o4, rfl, hp2⟩ := s3 d (by rw [RP.out.row a han]; exact hdm)
          clear s3 s2
          rw [show ix (rowAt P a) d = elOf P a d from rfl] at hp2
          have hE := H01.out a d han hdm
          obtain ⟨SK, hSK⟩ : ∃ b : Bool, (!(decide (elOf P a d = 0) && c (pairI a d))) = b := ⟨_, rfl⟩
          have HSK := Lib.hid hSK; clear hSK
          have HZE := Lib.hid (show zeroF a d (elOf P a d) = decide (elOf P a d = 0) from rfl)
          obtain ⟨E, hEe⟩ : ∃ E, elOf P a d = E := ⟨_, rfl⟩
          rw [hEe] at hp2 hE HSK HCQ HZE
          clear hEe
          go_upto_region 9 with fail
          go_cut [62] from 29 to 62 (fun s62 wx => s62 = .bool SK ∧ Drew wi wx)
          case first =>
            -- BEGIN cut skip
            rcases hE with rfl | rfl
            · have e01 : ((0 : Int) == 1) = false := by decide
              have hs3 : s = 0 ∨ s = 1 ∨ s = 2 := by omega
              rcases hs3 with rfl | rfl | rfl
              · have hcq : c (pairI a d) = decide ((a : Int) = I) := by rw [← HC.out]; rfl
                by_cases hI : (a : Int) = I
                · have hne : ((a : Int) != I) = false := by simp [hI]
                  have hSKv : SK = false := by rw [← HSK.out, hcq]; simp [hI]
                  subst hSKv
                  have HH := Lib.hid hI; clear hI hcq
                  go_quiet (fail)
                  go_wp2_with fail
                  go_meet
                  exact ⟨rfl, (Drew.refl wi).drewN _⟩
                · have hne : ((a : Int) != I) = true := by simp [hI]
                  have hSKv : SK = true := by rw [← HSK.out, hcq]; simp [hI]
                  subst hSKv
                  have HH := Lib.hid hI; clear hI hcq
                  go_quiet (fail)
                  go_wp2_with fail
                  go_meet
                  exact ⟨rfl, (Drew.refl wi).drewN _⟩
              · have hcq : c (pairI a d) = decide ((d : Int) = J) := by rw [← HC.out]; rfl
                by_cases hI : (d : Int) = J
                · have hne : ((d : Int) != J) = false := by simp [hI]
                  have hSKv : SK = false := by rw [← HSK.out, hcq]; simp [hI]
                  subst hSKv
                  have HH := Lib.hid hI; clear hI hcq
                  go_quiet (fail)
                  go_wp2_with fail
                  go_meet
                  exact ⟨rfl, (Drew.refl wi).drewN _⟩
                · have hne : ((d : Int) != J) = true := by simp [hI]
                  have hSKv : SK = true := by rw [← HSK.out, hcq]; simp [hI]
                  subst hSKv
                  have HH := Lib.hid hI; clear hI hcq
                  go_quiet (fail)
                  go_wp2_with fail
                  go_meet
                  exact ⟨rfl, (Drew.refl wi).drewN _⟩
              · have hcq : c (pairI a d) = true := by rw [← HC.out]; rfl
                have hSKv : SK = false := by rw [← HSK.out, hcq]; simp
                subst hSKv
                clear hcq
                go_quiet (fail)
                go_wp2_with fail
                go_meet
                exact ⟨rfl, (Drew.refl wi).drewN _⟩
            · have e11 : ((1 : Int) == 1) = true := by decide
              have hSKv : SK = true := by rw [← HSK.out]; simp
              subst hSKv
              go_quiet (fail)
              go_wp2_with fail
              go_meet
              exact ⟨rfl, (Drew.refl wi).drewN _⟩
            -- END cut skip
          case rest =>
            obtain ⟨rfl, hx3⟩ := hcut
            obtain ⟨w3, rfl⟩ : ∃ w3 : World, w3 = wc := ⟨_, rfl⟩
            clear hp1 hp2 hE
            have hxi3 := hxi.trans hx3
            clear hx3
            cases SK
            · -- BEGIN cut take
              have hkq := HSK.out
              have hz : decide (E = 0) = true := by cases h : decide (E = 0) <;> simp [h] at hkq ⊢
              have hcv : c (pairI a d) = true := by rw [hz] at hkq; cases h : c (pairI a d) <;> simp [h] at hkq ⊢
              have HS := Lib.hid (show gdL x c (cellsQ zeroF P m (q + 1)) = gdF x c (gdL x c (cellsQ zeroF P m q)) (pairI a d) by
                rw [HCQ.out, HZE.out, hz, if_pos rfl, gdL_snoc])
              have HCV := Lib.hid hcv; clear hcv hkq hz
              obtain ⟨bx', ox', a3, c3, e9, hx1, s4, s5, s6⟩ := (GX.out.ext (hxw.trans hxi3).ext).at_ (k := a) (by rw [RX.out.len]; exact han)
              obtain ⟨rfl, rfl⟩ : bx = bx' ∧ ox = ox' := by simpa using e9
              clear e9
              rw [RX.out.row a han] at hx1 s4
              obtain ⟨b5, o5, rfl, hx2⟩ := s6 d (by rw [RX.out.row a han]; exact hdm)
              clear s6 s5
              rw [show ix (rowAt x a) d = elOf x a d from rfl] at hx2
              obtain ⟨X, hX⟩ : ∃ X, elOf x a d = X := ⟨_, rfl⟩
              rw [hX] at hx2
              have HX := Lib.hid hX; clear hX
              rcases HB.out with ⟨hb1, rfl⟩ | ⟨a', d', ha', hd', hb1, rfl⟩
              · have HR := Lib.hid (show gdL x c (cellsQ zeroF P m (q + 1)) = some (pairI a d) by rw [HS.out, hb1, gdS_first HCV.out])
                clear hb1 hx1 hx2
                go_wp2_with fail
                go_quiet (fail)
                go_wp2_with fail
                go_roundw
                case rel => exact ⟨q + 1, q, by omega, by go_num, rfl, .inr ⟨a, d, han, hdm, HR.out, by rw [HPOS.out]⟩, hxi3.drewN _⟩
                case measure => simp [intOf]; omega
              · obtain ⟨bx', ox', a4, c4, e9, hx3, t4, t5, t6⟩ := (GX.out.ext (hxw.trans hxi3).ext).at_ (k := a') (by rw [RX.out.len]; exact ha')
                obtain ⟨rfl, rfl⟩ : bx = bx' ∧ ox = ox' := by simpa using e9
                clear e9
                rw [RX.out.row a' ha'] at hx3 t4
                obtain ⟨b7, o7, rfl, hx4⟩ := t6 d' (by rw [RX.out.row a' ha']; exact hd')
                clear t6 t5
                rw [show ix (rowAt x a') d' = elOf x a' d' from rfl] at hx4
                obtain ⟨Y, hY⟩ : ∃ Y, elOf x a' d' = Y := ⟨_, rfl⟩
                rw [hY] at hx4
                have HY := Lib.hid hY; clear hY
                obtain ⟨k', hk'⟩ : ∃ k', a' * m + d' = k' := ⟨_, rfl⟩
                have hpp := pos_parts hd' hk'
                rw [hk']
                have j1 : (k' : Int) / (m : Int) = (a' : Int) := by rw [← hpp.1]; simp
                have j2 : (k' : Int).tdiv (m : Int) = (a' : Int) := by rw [Int.tdiv_eq_ediv_of_nonneg (by omega)]; exact j1
                have j3 : (k' : Int) % (m : Int) = (d' : Int) := by rw [← hpp.2]; simp
                have j4 : (k' : Int).tmod (m : Int) = (d' : Int) := by rw [Int.tmod_eq_emod_of_nonneg (by omega)]; exact j3
                have j5 : IntKind.i64.wrap (a' : Int) = (a' : Int) := IntWalk.i64_in _ (by omega)
                have j6 : IntKind.i64.wrap (d' : Int) = (d' : Int) := IntWalk.i64_in _ (by omega)
                have j7 : (a' : Int) < (n : Int) := by omega
                have j8 : (d' : Int) < (m : Int) := by omega
                have j9 : decide ((k' : Int) < 0) = false := decide_eq_false (by omega)
                have j10 : ¬ ((k' : Int) < 0) := by omega
                have HK' := Lib.hid hk'; clear hk' hpp
                by_cases hl : X < Y
                · have HR := Lib.hid (show gdL x c (cellsQ zeroF P m (q + 1)) = some (pairI a d) by rw [HS.out, hb1, gdS_less HCV.out (by rw [HX.out, HY.out]; exact hl)])
                  clear hb1
                  go_wp2_with fail
                  go_quiet (fail)
                  go_wp2_with fail
                  go_roundw
                  case rel => exact ⟨q + 1, q, by omega, by go_num, rfl, .inr ⟨a, d, han, hdm, HR.out, by rw [HPOS.out]⟩, hxi3.drewN _⟩
                  case measure => simp [intOf]; omega
                · have HR := Lib.hid (show gdL x c (cellsQ zeroF P m (q + 1)) = some (pairI a' d') by rw [HS.out, hb1, gdS_more (by rw [HX.out, HY.out]; exact hl)])
                  clear hb1
                  have hl' : decide (X < Y) = false := decide_eq_false hl
                  go_wp2_with fail
                  go_quiet (fail)
                  go_wp2_with fail
                  go_roundw
                  case rel => exact ⟨q + 1, k', by omega, by go_num, rfl, .inr ⟨a', d', ha', hd', HR.out, by rw [HK'.out]⟩, hxi3.drewN _⟩
                  case measure => simp [intOf]; omega
              -- END cut take
            · have HS := Lib.hid (show gdL x c (cellsQ zeroF P m (q + 1)) = gdL x c (cellsQ zeroF P m q) by
                have hkq := HSK.out
                rw [HCQ.out, HZE.out]
                cases hz : decide (E = 0)
                · rw [if_neg (by simp)]
                · rw [if_pos rfl, gdL_snoc, gdS_off (by rw [hz] at hkq; cases h : c (pairI a d) <;> simp [h] at hkq ⊢)])
              go_wp2_with fail
              go_roundw
              case rel => exact ⟨q + 1, bI, by omega, by go_num, rfl, by rw [HS.out]; exact HB.out, hxi3⟩
              case measure => simp [intOf]; omega
        · have hqe : N = q := by omega
          subst hqe
          have hb := HB.out
          have hall : cellsQ zeroF P m N = cellsL zeroF P := by rw [← HNN.out]; exact cellsQ_all RP.out (by omega)
          rw [hall] at hb
          clear HB hall
          have hqi : ¬ ((N : Int) < (N : Int)) := by omega
          rcases hb with ⟨hb1, rfl⟩ | ⟨a, d, ha, hd', hb1, rfl⟩
          · have HB1 := Lib.hid hb1; clear hb1
            go_wp2_with fail
            go_roundw
            case rel => exact ⟨s + 1, by omega, by go_num, fun s' h => (by
              by_cases e : s' = s
              · subst e; rw [HC.out]; exact HB1.out
              · exact HNO.out s' (by omega)), hxw.trans hxi⟩
            case measure => simp [intOf]; omega
          · obtain ⟨k', hk'⟩ : ∃ k', a * m + d = k' := ⟨_, rfl⟩
            rw [hk']
            have HB1 := Lib.hid (And.intro hb1 hk'); clear hb1 hk'
            have h0 : (0 : Int) ≤ (k' : Int) := by omega
            have h1 : ¬ ((k' : Int) < 0) := by omega
            go_wp2
            go_ret
            exact ⟨_, rfl, .inr ⟨a, d, ha, hd', gdNext_at hlt HNO.out (by rw [HC.out]; exact HB1.out.1), by rw [HB1.out.2]⟩, hxw.trans hxi⟩
    · have hs3 : s = 3 := by omega
      subst hs3
      go_wp2
      go_ret
      exact ⟨-1, rfl, .inl ⟨gdNext_none HNO.out, rfl⟩, hxw⟩
end Go.Proofs.Ytodnkahnbidgaaa
namespace Go.Proofs.Ytodnkahnbidgaaa
open Go.RowKit
open Fm

set_option maxRecDepth 100000 in
set_option maxHeartbeats 3200000 in
theorem vPlanG_c (x P S : List (List Int)) (v1 v2 v3 : Value) (w : World) (hs : pubB x S = true) (hpp : pubB x P = true) (h1 : Grid w v1 x) (h2 : Grid w v2 P) (h3 : Grid w v3 S) :
    Calls Try.prog 39 #[v1, v2, v3] w fun e w' => ∃ (a : Option Addr) (c : Nat) (rv : List Value), e = .returned (.agg #[.slice a S.length c, .int .i64 (cellsL (addF P) S).length, .int .i64 (sumR x (cellsL (addF P) S))]) ∧ OwnG w.heap.size w'.heap.size w' (.slice a S.length c) rv S ∧ Ext w w' := by
  have H3 := Lib.hid h3
  obtain ⟨ax, cx, rfl, x1, x2, x3⟩ := h1
  have GX := Lib.hid x3; clear x3
  obtain ⟨ap, cp, rfl, p1, p2, p3⟩ := h2
  have GP := Lib.hid p3; clear p3
  obtain ⟨as_, cs, rfl, s1, s2, s3⟩ := h3
  have GS := Lib.hid s3; clear s3
  have hd := atk_dims hs
  have HRX := Lib.hid (pub_rc hs)
  have HRS := Lib.hid (pat_rc hs)
  have HRP := Lib.hid (pat_rc hpp)
  have HEL := Lib.hid (fun i j hi hj => pub_el hs (i := i) (j := j) hi hj)
  clear hs hpp
  obtain ⟨n, hn⟩ : ∃ n, x.length = n := ⟨_, rfl⟩
  obtain ⟨m, hm⟩ : ∃ m, (rowAt x 0).length = m := ⟨_, rfl⟩
  rw [hn] at HRX HRS HRP HEL hd x1
  rw [hm] at HRX HRS HRP HEL hd
  have hxl := HRX.out.len
  have hpl := HRP.out.len
  have hsl := HRS.out.len
  rw [hpl] at p1
  rw [hsl] at s1 H3
  rw [hn, hpl, hsl]
  have HPL := Lib.hid hpl; clear hpl
  have HSL := Lib.hid hsl; clear hsl hxl
  have HN := Lib.hid hn; clear hn
  have HM := Lib.hid hm; clear hm
  obtain ⟨d1, d2, d3, d4⟩ := hd
  have HC : Hid (S.length ≤ 1048576 ∧ (∀ k, k < S.length → (rowAt S k).length ≤ 1048576) ∧ ∀ k, k < S.length → rowAt S k ≠ []) := Lib.hid ⟨by rw [HSL.out]; omega, fun k hk => by rw [HRS.out.row k (by rw [← HSL.out]; exact hk)]; omega, fun k hk e => by
    have := HRS.out.row k (by rw [← HSL.out]; exact hk)
    rw [e] at this; simp at this; omega⟩
  have HR8 : Hid (∀ i, i < S.length → (rowAt S i).length ≤ 8) := Lib.hid (fun i hi => by rw [HRS.out.row i (by rw [← HSL.out]; exact hi)]; exact d4)
  obtain ⟨F, hF⟩ : ∃ F, addF P = F := ⟨_, rfl⟩
  rw [hF]
  have HF := Lib.hid hF; clear hF
  have u0 := (Ext.refl w).alloc (.cells #[.slice none 0 0, .int .i64 0, .int .i64 0] 30)
  have b0 := Box.new w 30 #[.slice none 0 0, .int .i64 0, .int .i64 0] rfl
  go_enter Try.func39, Try.ntmps39
  go_wp2_with fail
  refine (tOwn_c _ S _ (H3.out.ext u0) HC.out.1 HC.out.2.1 HC.out.2.2).mono ?_
  rintro e w2 ⟨v', rv, rfl, o2, u2⟩
  have O2 := Lib.hid o2
  obtain ⟨av, cv, rfl, _, _, qq⟩ := o2
  clear qq
  rw [HSL.out]
  have uX := u0.trans u2
  have bR := b0.ext u2
  have b1 := Box.new w2 30 #[.slice av n cv, .int .i64 0, .int .i64 0] rfl
  have hz2 : w.heap.size + 1 ≤ w2.heap.size := bR.lt
  have e1 := (Ext.refl w2).alloc (.cells #[.slice av n cv, .int .i64 0, .int .i64 0] 30)
  clear u0 u2 b0
  go_wp2
  go_loopw [17] (fun i wr => ∃ k : Nat, k ≤ n ∧ i = .int .i64 k ∧ Box wr w2.heap.size 30 #[.slice av n cv, .int .i64 (cellsTo F S k 0).length, .int .i64 (sumR x (cellsTo F S k 0))] ∧ Ext w2 wr) (fun i _ => n - (intOf i).toNat)
  case atStart => exact ⟨0, Nat.zero_le _, rfl, by rw [cellsTo_start]; exact b1, e1⟩
  case round =>
    clear b1 e1
    obtain ⟨k, hk, rfl, hb, hx⟩ := hrel
    obtain ⟨wo, rfl⟩ : ∃ wo : World, wo = wr := ⟨_, rfl⟩
    have HB := Lib.hid hb; clear hb
    by_cases hlt : k < n
    · obtain ⟨bs, os, ar, cr, rfl, hc0, r1, r2, r3⟩ := GS.out.at_ (k := k) (by rw [HSL.out]; exact hlt)
      rw [HRS.out.row k hlt] at hc0 r1
      have hc := Ext.cell (uX.trans hx) hc0
      have R3 := Lib.hid r3; clear r3 hc0
      obtain ⟨bp, op, ar2, cr2, rfl, hcp, t1, t2, t3⟩ := GP.out.at_ (k := k) (by rw [HPL.out]; exact hlt)
      rw [HRP.out.row k hlt] at hcp t1
      have T3 := Lib.hid t3; clear t3
      obtain ⟨bx, ox, ar3, cr3, rfl, hcx, y1, y2, y3⟩ := GX.out.at_ (k := k) (by rw [HN.out]; exact hlt)
      rw [HRX.out.row k hlt] at hcx y1
      have Y3 := Lib.hid y3; clear y3
      go_wp2
      go_loopw [24] (fun i wr => ∃ l : Nat, l ≤ m ∧ i = .int .i64 l ∧ Box wr w2.heap.size 30 #[.slice av n cv, .int .i64 (cellsTo F S k l).length, .int .i64 (sumR x (cellsTo F S k l))] ∧ Ext w2 wr) (fun i _ => m - (intOf i).toNat)
      case atStart => exact ⟨0, Nat.zero_le _, rfl, HB.out, hx⟩
      case round =>
        clear hc hx HB
        obtain ⟨l, hl, rfl, hb, hx⟩ := hrel
        obtain ⟨wi, rfl⟩ : ∃ wi : World, wi = wr := ⟨_, rfl⟩
        by_cases hl2 : l < m
        · obtain ⟨b5, o5, rfl, hx5⟩ := R3.out l (by rw [HRS.out.row k hlt]; exact hl2)
          obtain ⟨b6, o6, rfl, hx6⟩ := T3.out l (by rw [HRP.out.row k hlt]; exact hl2)
          obtain ⟨b7, o7, rfl, hx7⟩ := Y3.out l (by rw [HRX.out.row k hlt]; exact hl2)
          have q5 : ix (rowAt S k) l = elOf S k l := rfl
          have q6 : ix (rowAt P k) l = elOf P k l := rfl
          have q7 : ix (rowAt x k) l = elOf x k l := rfl
          rw [q5] at hx5
          rw [q6] at hx6
          rw [q7] at hx7
          clear q5 q6 q7
          have e5 := Ext.cell (uX.trans hx) hx5
          have e6 := Ext.cell (uX.trans hx) hx6
          have e7 := Ext.cell (uX.trans hx) hx7
          have ecp := Ext.cell (uX.trans hx) hcp
          have ecx := Ext.cell (uX.trans hx) hcx
          clear hx5 hx6
          have z0 := hb.cell 0 (by simp)
          have z1 := hb.cell 1 (by simp)
          have z2 := hb.cell 2 (by simp)
          have f1 := hb.free 1
          have f2 := hb.free 2
          by_cases hone : elOf S k l = 1
          · by_cases hz : elOf P k l = 0
            · have hf : F k l (elOf S k l) = true := by rw [← HF.out]; simp [addF, hone, hz]
              have HCY := Lib.hid (cellsTo_yes hf); clear hf
              have hlen := cellsTo_len (f := F) (p := S) (k := k) (l := l) (m := 8) (by rw [HSL.out]; exact hk) HR8.out
              have hsb := sumR_bound (x := x) (L := cellsTo F S k l) (n := n) (m := m) HEL.out (cellsTo_row (by omega) (.inl hlt) (by omega) (fun i hi => HRS.out.row i hi))
              have hel := HEL.out k l hlt hl2
              have HSN := Lib.hid (sumR_snoc x (cellsTo F S k l) k l)
              obtain ⟨N, hN⟩ : ∃ N, (cellsTo F S k l).length = N := ⟨_, rfl⟩
              obtain ⟨T, hT⟩ : ∃ T, sumR x (cellsTo F S k l) = T := ⟨_, rfl⟩
              rw [hT] at HSN
              rw [hN, hT] at hsb hb
              rw [hN] at hlen z1
              rw [hT] at z2
              obtain ⟨X, hX⟩ : ∃ X, elOf x k l = X := ⟨_, rfl⟩
              rw [hX] at hel e7 HSN
              have hn80 : N ≤ 80 := by omega
              have hb1 : 0 ≤ T ∧ T ≤ 100000 := by omega
              have hwX : IntKind.i64.wrap (T + X) = T + X := IntWalk.i64_in _ (by omega)
              have HNN := Lib.hid hN; clear hN
              have HTT := Lib.hid hT; clear hT hsb hlen
              have HXE := Lib.hid hX; clear hX
              have hb2 := hb.set 1 (.int .i64 ((N : Int) + 1))
              have hx2 := hx.setCell (a := ⟨w2.heap.size, 1, none⟩) (.int .i64 ((N : Int) + 1)) (Nat.le_refl _)
              obtain ⟨wj, hwj⟩ : ∃ wj, wi.setCell ⟨w2.heap.size, 1, none⟩ (.int .i64 ((N : Int) + 1)) = wj := ⟨_, rfl⟩
              rw [hwj] at hb2 hx2
              have HWJ := Lib.hid hwj; clear hwj
              have k2 : wj.cell? ⟨w2.heap.size, 2, none⟩ = some (.int .i64 T) := hb2.cell 2 (by simp)
              have g2 := hb2.free 2
              have kx : wj.cell? ⟨bx, ox + k, none⟩ = some (.slice (some ⟨b7, o7, none⟩) m cr3) := Ext.cell (uX.trans hx2) hcx
              have k7 : wj.cell? ⟨b7, o7 + l, none⟩ = some (.int .i64 X) := Ext.cell (uX.trans hx2) (by rw [← HXE.out]; exact hx7)
              have hnx : bx ≠ w2.heap.size := by have := World.block_lt_of_cell? w _ hcx; simp only at this; omega
              have hn7 : b7 ≠ w2.heap.size := by have := World.block_lt_of_cell? w _ hx7; simp only at this; omega
              have hb3 := hb2.drew.set 2 (.int .i64 (T + X))
              have hx3 := hx2.drew.setCell (a := ⟨w2.heap.size, 2, none⟩) (.int .i64 (T + X)) (Nat.le_refl _)
              have HB3 := Lib.hid (And.intro hb3 hx3); clear hb3 hx3
              go_wp2_with fail
              rw [HWJ.out]
              go_region
              go_wp2
              go_roundw
              case rel => exact ⟨l + 1, by omega, by go_num, by rw [HCY.out, HSN.out, List.length_append, HNN.out]; exact HB3.out.1, HB3.out.2⟩
              case measure => simp [intOf]; omega
            · have hf : F k l (elOf S k l) = false := by rw [← HF.out]; simp [addF, hz]
              have HCN := Lib.hid (cellsTo_no hf); clear hf
              have HBB := Lib.hid hb; clear hb
              clear z0 z1 z2 f1 f2
              go_wp2
              go_roundw
              case rel => exact ⟨l + 1, by omega, by go_num, by rw [HCN.out]; exact HBB.out, hx⟩
              case measure => simp [intOf]; omega
          · have hf : F k l (elOf S k l) = false := by rw [← HF.out]; simp [addF, hone]
            have HCN := Lib.hid (cellsTo_no hf); clear hf
            have HBB := Lib.hid hb; clear hb
            clear z0 z1 z2 f1 f2
            go_wp2
            go_roundw
            case rel => exact ⟨l + 1, by omega, by go_num, by rw [HCN.out]; exact HBB.out, hx⟩
            case measure => simp [intOf]; omega
        · have hlm : l = (rowAt S k).length := by rw [HRS.out.row k hlt]; omega
          have HCX := Lib.hid (cellsTo_next (f := F) hlm); clear hlm
          have HBB := Lib.hid hb; clear hb
          go_wp2
          go_roundw
          case rel => exact ⟨k + 1, by omega, by go_num, by rw [HCX.out]; exact HBB.out, hx⟩
          case measure => simp [intOf]; omega
    · have hkk : k = S.length := by rw [HSL.out]; omega
      have HKK : Hid (cellsTo F S k 0 = cellsL F S) := Lib.hid (by unfold cellsL; rw [← hkk])
      clear hkk
      have hb := HB.out
      rw [HKK.out] at hb
      have br := bR.ext hx
      have f0 := br.free 0
      have f1 := br.free 1
      have f2 := br.free 2
      have g0 := br.cell 0 (by simp)
      have g1 := br.cell 1 (by simp)
      have g2 := br.cell 2 (by simp)
      have k0 := hb.cell 0 (by simp)
      have k1 := hb.cell 1 (by simp)
      have k2 := hb.cell 2 (by simp)
      have hxw := uX.trans hx
      clear HB
      go_wp2
      refine bodyPost_ret (v := .agg #[.slice av n cv, .int .i64 (cellsL F S).length, .int .i64 (sumR x (cellsL F S))]) (by simp [results, Try.results39, go_sem, g0, g1, g2]) rfl ⟨_, _, rv, rfl, ?_, ((hxw.setCell _ (Nat.le_refl _)).setCell _ (Nat.le_refl _)).setCell _ (Nat.le_refl _)⟩
      have hlo : w.heap.size < (w.alloc (.cells #[.slice none 0 0, .int .i64 0, .int .i64 0] 30)).heap.size := by simp
      have hsw := hx.size
      have O3 := O2.out.ext hx
      rw [HSL.out] at O3
      exact (((O3.put_away ⟨w.heap.size, 0, none⟩ (.slice av n cv) (.inl hlo)).put_away ⟨w.heap.size, 1, none⟩ (.int .i64 (cellsL F S).length) (.inl hlo)).put_away ⟨w.heap.size, 2, none⟩ (.int .i64 (sumR x (cellsL F S))) (.inl hlo)).mono (Nat.le_of_lt hlo) (by simp [World.setCell]; exact hsw)
end Go.Proofs.Ytodnkahnbidgaaa
namespace Go.Proofs.Ytodnkahnbidgaaa
open Go.RowKit
open Fm

def posI (m : Nat) : Option (List Int) → Int
  | none => -1
  | some r => ix r 0 * m + ix r 1
theorem posI_of {K : Int} {b : Option (List Int)} {n m : Nat} (h : BestI K b n m) : K = posI m b := by
  rcases h with ⟨rfl, rfl⟩ | ⟨a, d, _, _, rfl, rfl⟩
  · rfl
  · show ((a * m + d : Nat) : Int) = (a : Int) * m + d
    simp
theorem bestI_of {x P : List (List Int)} {n m : Nat} (hr : Rc n m P) (I J : Int) : BestI (posI m (gdNext x P I J)) (gdNext x P I J) n m := by
  cases h : gdNext x P I J with
  | none => exact .inl ⟨rfl, rfl⟩
  | some r =>
    obtain ⟨a, d, ha, hd, _, rfl⟩ := gdNext_cell hr h
    exact .inr ⟨a, d, ha, hd, rfl, by show (a : Int) * m + d = _; simp⟩
set_option maxRecDepth 100000 in
set_option maxHeartbeats 12800000 in
theorem specGd_c (v1 : Value) (x : List (List Int)) (v2 : Value) (S : List (List Int)) (down up : Int) (w : World) (h1 : Grid w v1 x) (h2 : Grid w v2 S) :
    Calls Try.prog 13 #[v1, v2, .int .i64 down, .int .i64 up] w fun e w' => ∃ v', e = .returned (.tuple #[v', .bool (gdB x S down up)]) ∧ PlN w.heap.size w'.heap.size w' v' (gdV x S down up) ∧ Ext w w' := by
  have H1 := Lib.hid h1
  have H2 := Lib.hid h2; clear h2
  have u0 := (Ext.refl w).alloc (.cells #[.slice none 0 0, .int .i64 0, .int .i64 0] 30)
  have b0 := Box.new w 30 #[.slice none 0 0, .int .i64 0, .int .i64 0] rfl
  have nothing : ∀ (w' : World), PlN w.heap.size w'.heap.size w' (.agg #[.slice none 0 0, .int .i64 0, .int .i64 0]) ⟨[], 0, 0⟩ := fun w' => ⟨_, _, _, [], rfl, OwnG.nil, rfl, rfl⟩
  have off : cpB x S down up = false → gdB x S down up = false ∧ gdV x S down up = ⟨[], 0, 0⟩ := fun h => by
    have e : gdG x S down up = none := by simp [gdG, h]
    unfold gdB gdV
    rw [e]; exact ⟨rfl, rfl⟩
  cases hp : pubB x S
  · have hO := off (by simp [cpB, hp])
    rw [hO.1, hO.2]; clear hO off
    have HP := Lib.hid (show (gridB 8 1000 x && patB x S) = false from hp); clear hp
    go_enter Try.func13, Try.ntmps13
    go_wp2_with fail
    refine (qPattern_b false _ _ x S _ HP.out (H1.out.ext u0) (H2.out.ext u0)).mono ?_
    rintro e w1 ⟨rfl, d1⟩
    have b1 := b0.ext d1.ext
    have u1 := u0.trans d1.ext
    have q0 := b1.cell 0 (by simp)
    have q1 := b1.cell 1 (by simp)
    have q2 := b1.cell 2 (by simp)
    have f0 := b1.free 0
    have f1 := b1.free 1
    have f2 := b1.free 2
    go_wp2
    refine bodyPost_ret (v := .tuple #[.agg #[.slice none 0 0, .int .i64 0, .int .i64 0], .bool false]) (by simp [results, Try.results13, go_sem, q0, q1, q2]) rfl ⟨_, rfl, nothing _, ?_⟩
    first | exact u1 | exact ((u1.setCell _ (Nat.le_refl _)).setCell _ (Nat.le_refl _)).setCell _ (Nat.le_refl _)
  cases hl : levB down up
  · have hO := off (by simp [cpB, hl])
    rw [hO.1, hO.2]; clear hO off
    have HP := Lib.hid (show (gridB 8 1000 x && patB x S) = true from hp); clear hp
    have HL := Lib.hid hl; clear hl
    go_enter Try.func13, Try.ntmps13
    go_wp2_with fail
    refine (qPattern_b true _ _ x S _ HP.out (H1.out.ext u0) (H2.out.ext u0)).mono ?_
    rintro e w1 ⟨rfl, d1⟩
    have b1 := b0.ext d1.ext
    have u1 := u0.trans d1.ext
    have q0 := b1.cell 0 (by simp)
    have q1 := b1.cell 1 (by simp)
    have q2 := b1.cell 2 (by simp)
    have f0 := b1.free 0
    have f1 := b1.free 1
    have f2 := b1.free 2
    go_wp2_with fail
    refine (vLevels_b false down up _ HL.out).mono ?_
    rintro e w2 ⟨rfl, rfl⟩
    go_wp2
    refine bodyPost_ret (v := .tuple #[.agg #[.slice none 0 0, .int .i64 0, .int .i64 0], .bool false]) (by simp [results, Try.results13, go_sem, q0, q1, q2]) rfl ⟨_, rfl, nothing _, ?_⟩
    first | exact u1 | exact ((u1.setCell _ (Nat.le_refl _)).setCell _ (Nat.le_refl _)).setCell _ (Nat.le_refl _)
  clear off
  have hGG : gdG x S down up = gdAt x S S down up := by simp [gdG, cpB, hp, hl]
  obtain ⟨G, hG⟩ : ∃ G, gdAt x S S down up = G := ⟨_, rfl⟩
  have hBV : gdB x S down up = G.isSome ∧ gdV x S down up = plOf x S G := by
    unfold gdB gdV
    rw [hGG, hG]; exact ⟨rfl, rfl⟩
  rw [hBV.1, hBV.2]
  clear hBV hGG
  have HIN := Lib.hid (inp_self hp)
  have HGS := Lib.hid hG; clear hG
  have hd := atk_dims hp
  have HRX := Lib.hid (pub_rc hp)
  have HRS := Lib.hid (pat_rc hp)
  have HPU := Lib.hid hp
  have HP := Lib.hid (show (gridB 8 1000 x && patB x S) = true from hp); clear hp
  have HL := Lib.hid hl; clear hl
  obtain ⟨ax, cx, rfl, x1, x2, x3⟩ := h1
  have GX := Lib.hid x3; clear x3
  obtain ⟨n, hn⟩ : ∃ n, x.length = n := ⟨_, rfl⟩
  obtain ⟨m, hm⟩ : ∃ m, (rowAt x 0).length = m := ⟨_, rfl⟩
  rw [hn] at HRX HRS hd x1 H1 ⊢
  rw [hm] at HRX HRS hd
  have HN := Lib.hid hn; clear hn
  have HM := Lib.hid hm; clear hm
  have HSZ := Lib.hid (show (w.alloc (.cells #[.slice none 0 0, .int .i64 0, .int .i64 0] 30)).heap.size = w.heap.size + 1 by simp)
  have HB0 := Lib.hid b0; clear b0
  obtain ⟨wa, hwa⟩ : ∃ wa, wa = w.alloc (.cells #[.slice none 0 0, .int .i64 0, .int .i64 0] 30) := ⟨_, rfl⟩
  rw [← hwa] at HB0 u0 HSZ
  go_enter Try.func13, Try.ntmps13
  go_wp2_with fail
  rw [← hwa]
  have HWA := Lib.hid hwa; clear hwa
  refine (qPattern_b true _ _ x S _ HP.out (H1.out.ext u0) (H2.out.ext u0)).mono ?_
  rintro e w1 ⟨rfl, d1⟩
  have u1 := d1.ext; clear d1
  go_wp2_with fail
  refine (vLevels_b true down up _ HL.out).mono ?_
  rintro e w2 ⟨rfl, rfl⟩
  go_wp2_with fail
  refine (tOwn_c _ S _ (H2.out.ext (u0.trans u1)) (by rw [HRS.out.len]; omega) (fun k hk => by rw [HRS.out.row k (by rw [← HRS.out.len]; exact hk)]; omega) (fun k hk e => by have := HRS.out.row k (by rw [← HRS.out.len]; exact hk); rw [e] at this; simp at this; omega)).mono ?_
  rintro e w2 ⟨v', rvs, rfl, og, u2⟩
  have HG0 := Lib.hid og.grid; clear og
  have HU2 := Lib.hid (u1.trans u2); clear u1 u2
  go_wp2_with fail
  go_loopg [10] (zeros S) (fun gk s10 wr => ∃ P : List (List Int), gk = zeros P ∧ inpB x P S = true ∧ Grid wr s10 P ∧ gdAt x S P down up = G ∧ Ext wa wr)
  case atStart => exact ⟨S, rfl, HIN.out, HG0.out, HGS.out, HU2.out⟩
  case round =>
    clear HGS HIN HU2 HG0
    obtain ⟨P, hk, hin, hg, hrun, hxa⟩ := hrel
    obtain ⟨wo, rfl⟩ : ∃ wo : World, wo = wr := ⟨_, rfl⟩
    have HKK := Lib.hid hk; clear hk
    have HIN := Lib.hid hin; clear hin
    have HRUN := Lib.hid hrun; clear hrun
    have HRP := Lib.hid (show Rc n m P from by have := pat_rc (inpB_true HIN.out).1; rwa [HN.out, HM.out] at this)
    have H01 := Lib.hid (show ∀ i j, i < n → j < m → elOf P i j = 0 ∨ elOf P i j = 1 from fun i j hi hj => pat01 (inpB_true HIN.out).1 (by rw [HN.out]; exact hi) (by rw [HM.out]; exact hj))
    have HGP := Lib.hid hg
    obtain ⟨ap, cp, rfl, g1, g2, g3⟩ := hg
    clear g3
    rw [HRP.out.len] at g1 HGP ⊢
    have hxw := u0.trans hxa
    have LR := Lib.hid (fun t (ht : t < (cellsL (openF x P down up) S).length) => cellsL_row (f := openF x P down up) (p := S) ht)
    obtain ⟨L, hL⟩ : ∃ L, cellsL (openF x P down up) S = L := ⟨_, rfl⟩
    rw [hL] at LR
    have HLL := Lib.hid hL; clear hL
    go_wp2_with fail
    refine (vOpen_c x P S _ _ _ down up _ HIN.out HL.out (H1.out.ext hxw) HGP.out (H2.out.ext hxw)).mono ?_
    rintro e w4 ⟨vL, rL, rfl, oL, u4⟩
    rw [HLL.out] at oL
    obtain ⟨aL, cL, rfl, l4, l5, l6⟩ := oL
    have GL := Lib.hid l6.grid; clear l6 l5
    have HX4 := Lib.hid (hxa.trans u4)
    have HW4 := Lib.hid (hxw.trans u4)
    have HGP4 := Lib.hid (HGP.out.ext u4)
    clear hxw hxa u4
    by_cases hz : L.length = 0
    · have HGe := Lib.hid ((gdAt_done (by rw [HLL.out]; exact hz)).symm.trans HRUN.out).symm
      rw [hz]
      clear hz l4
      go_wp2_with fail
      refine (vPlanG_c x S P _ _ _ w4 (inpB_true HIN.out).1 HPU.out (H1.out.ext HW4.out) (H2.out.ext HW4.out) HGP4.out).mono ?_
      rintro e w5 ⟨a5, c5, rv5, rfl, o5, u5⟩
      have br := (HB0.out.ext HX4.out).ext u5
      have q0 := br.cell 0 (by simp)
      have q1 := br.cell 1 (by simp)
      have q2 := br.cell 2 (by simp)
      have f0 := br.free 0
      have f1 := br.free 1
      have f2 := br.free 2
      have HO5 := Lib.hid o5; clear o5 br
      have HU5 := Lib.hid (HW4.out.trans u5)
      have hlt4 : w.heap.size < w4.heap.size := by have := HX4.out.size; have := HSZ.out; omega
      clear u5
      obtain ⟨A, hA⟩ : ∃ A : Int, ((cellsL (addF S) P).length : Int) = A := ⟨_, rfl⟩
      obtain ⟨V, hV⟩ : ∃ V, sumR x (cellsL (addF S) P) = V := ⟨_, rfl⟩
      rw [hA, hV]
      have HAV := Lib.hid (And.intro hA hV); clear hA hV
      have HPL := Lib.hid HRP.out.len
      rw [HPL.out] at HO5 ⊢
      go_wp2
      refine bodyPost_ret (v := .tuple #[.agg #[.slice a5 n c5, .int .i64 A, .int .i64 V], .bool true]) (by simp [results, Try.results13, go_sem, q0, q1, q2]) rfl ⟨_, by rw [HGe.out]; rfl, ?_, ((HU5.out.setCell _ (Nat.le_refl _)).setCell _ (Nat.le_refl _)).setCell _ (Nat.le_refl _)⟩
      rw [HGe.out]
      exact ⟨_, _, _, rv5, rfl, (((HO5.out.put_away ⟨w.heap.size, 0, none⟩ (.slice a5 n c5) (.inl hlt4)).put_away ⟨w.heap.size, 1, none⟩ (.int .i64 A) (.inl hlt4)).put_away ⟨w.heap.size, 2, none⟩ (.int .i64 V) (.inl hlt4)).mono (Nat.le_of_lt hlt4) (by simp [World.setCell]), by rw [← HAV.out.1]; rfl, by rw [← HAV.out.2]; rfl⟩
    · have hlp : 0 < L.length := by omega
      obtain ⟨i, j, hi, hj, _, er⟩ := LR.out 0 hlp
      rw [HRS.out.len] at hi
      rw [HRS.out.row i hi] at hj
      obtain ⟨bL, oL, ar, cr, rfl, hc0, r1, r2, r3⟩ := GL.out.at0 hlp
      have hI : Ints w4 (.slice ar (rowAt L 0).length cr) (pairI i j) := by rw [← er]; exact ⟨ar, cr, rfl, r1, r2, r3⟩
      have el : (rowAt L 0).length = 2 := by rw [er]; rfl
      rw [el] at hc0 hI
      have ENX := Lib.hid (show gdNext x P (ix (rowAt L 0) 0) (ix (rowAt L 0) 1) = gdNext x P i j by rw [er]; rfl)
      clear r1 r2 r3 el er
      obtain ⟨a3, c3, e3, h23, _, h3⟩ := hI
      simp only [Value.slice.injEq] at e3
      obtain ⟨rfl, q7, rfl⟩ := e3
      clear q7
      obtain ⟨b3, o3, rfl, y0⟩ := h3 0 (by show 0 < 2; omega)
      obtain ⟨b3', o3', e4, y1⟩ := h3 1 (by show 1 < 2; omega)
      obtain ⟨rfl, rfl⟩ : b3 = b3' ∧ o3 = o3' := by simpa using e4
      clear h3 e4 h23
      replace y0 := show w4.cell? ⟨b3, o3, none⟩ = some (.int .i64 i) from y0
      replace y1 := show w4.cell? ⟨b3, o3 + 1, none⟩ = some (.int .i64 j) from y1
      have HHL := Lib.hid hlp
      have hLb : ((L.length : Int) == 0) = false := by simp; exact fun h => hz (by rw [h]; rfl)
      have hL1 : (0 : Int) < (L.length : Int) := by omega
      have hB := bestI_of (x := x) HRP.out (i : Int) (j : Int)
      obtain ⟨K, hK⟩ : ∃ K, posI m (gdNext x P i j) = K := ⟨_, rfl⟩
      have HVN := Lib.hid (show ∀ q, Calls Try.prog 40 #[.slice ax n cx, .slice ap n cp, .int .i64 i, .int .i64 j] (w4.drewN q) fun e w' => e = .returned (.int .i64 K) ∧ ∃ r, w' = (w4.drewN q).drewN r from fun q => by
        refine (vNext_c x P _ _ i j n m _ (H1.out.ext (HW4.out.drewN q)) (HGP4.out.ext ((Ext.refl w4).drewN q)) HRX.out HRP.out hd H01.out).mono ?_
        rintro e w' ⟨K', rfl, hb, r, rfl⟩
        exact ⟨by rw [posI_of hb, hK], r, rfl⟩)
      rw [hK] at hB
      clear hK
      have HBI := Lib.hid hB; clear hB
      go_wp2_with fail
      go_quiet (exact Calls.quiet_of (HVN.out _))
      obtain ⟨w5, hw5⟩ : ∃ w5, w5 = w4.drewN nq := ⟨_, rfl⟩
      rw [← hw5]
      have U5 := Lib.hid (show Ext w4 w5 by rw [hw5]; exact (Ext.refl w4).drewN nq); clear hw5 hc0 y0 y1 hLb hL1 hz HVN
      rcases HBI.out with ⟨hb1, rfl⟩ | ⟨a, d, ha, hdm, hb1, rfl⟩
      · have HGe := Lib.hid ((gdAt_none HLL.out HHL.out (by rw [ENX.out]; exact hb1)).symm.trans HRUN.out).symm
        clear hb1
        have br := (HB0.out.ext HX4.out).ext U5.out
        have q0 := br.cell 0 (by simp)
        have q1 := br.cell 1 (by simp)
        have q2 := br.cell 2 (by simp)
        have f0 := br.free 0
        have f1 := br.free 1
        have f2 := br.free 2
        have hE := HW4.out.trans U5.out
        clear br
        go_wp2
        refine bodyPost_ret (v := .tuple #[.agg #[.slice none 0 0, .int .i64 0, .int .i64 0], .bool false]) (by simp [results, Try.results13, go_sem, q0, q1, q2]) rfl ⟨_, by rw [HGe.out]; rfl, by rw [HGe.out]; exact nothing _, ?_⟩
        first | exact hE | exact ((hE.setCell _ (Nat.le_refl _)).setCell _ (Nat.le_refl _)).setCell _ (Nat.le_refl _)
      · have HNX := Lib.hid (ENX.out.trans hb1); clear hb1
        have HZ0 := Lib.hid (show elOf P a d = 0 by
          obtain ⟨a', d', _, _, e0, e1⟩ := gdNext_cell HRP.out HNX.out
          have := pairI_inj e1
          rw [this.1, this.2]; exact e0)
        have HZS := Lib.hid (zeros_set HRP.out ha hdm HZ0.out)
        have hkn : a * m + d < n * m := by
          have h1 : (a + 1) * m ≤ n * m := Nat.mul_le_mul_right _ ha
          rw [Nat.add_mul] at h1
          omega
        obtain ⟨k', hk'⟩ : ∃ k', a * m + d = k' := ⟨_, rfl⟩
        have hpp := Lib.hid (pos_parts hdm hk')
        rw [hk'] at hkn HBI ⊢
        have HKN := Lib.hid hkn
        clear hk' hkn
        have h0 : ¬ ((k' : Int) < 0) := by omega
        have hI1 : Ints (w5.alloc (.cells #[.int .i64 k'] 3)) (.slice (some ⟨w5.heap.size, 0, none⟩) 1 1) [(k' : Int)] := ⟨_, 1, rfl, Nat.le_refl _, by omega, fun t ht => by
          have ht0 : t = 0 := by simpa using ht
          subst ht0
          exact ⟨w5.heap.size, 0, rfl, (Box.new w5 3 #[.int .i64 k'] rfl).cell 0 (by simp)⟩⟩
        have HI1 := Lib.hid hI1; clear hI1
        go_wp2_with fail
        refine (vWith_c _ _ P [(k' : Int)] n m _ (HGP4.out.ext (U5.out.alloc _)) HI1.out HRP.out hd (by simp) (fun t ht => by
          have ht0 : t = 0 := by simpa using ht
          subst ht0
          exact ⟨k', rfl, HKN.out⟩)).mono ?_
        rintro e w6 ⟨v6, rv6, rfl, o6, u6⟩
        have hset : setTo P m [(k' : Int)] [(k' : Int)].length = setOne P a d := by
          show setOne P ((ix [(k' : Int)] 0).toNat / m) ((ix [(k' : Int)] 0).toNat % m) = _
          have e0 : (ix [(k' : Int)] 0).toNat = k' := rfl
          rw [e0, hpp.out.1, hpp.out.2]
        rw [hset] at o6
        have HO6 := Lib.hid o6.grid; clear o6 hset
        have HX6 := Lib.hid (((HX4.out.trans U5.out).alloc _).trans u6); clear u6
        go_wp2_with fail
        go_roundg (gk - 1)
        case measure => have := HZS.out; have := HKK.out; omega
        case rel => exact ⟨setOne P a d, by have := HZS.out; have := HKK.out; omega, inp_set HIN.out (by rw [HN.out]; exact ha) (by rw [HM.out]; exact hdm), HO6.out, by rw [← HRUN.out]; exact (gdAt_step HRP.out HLL.out HHL.out ha hdm HZ0.out HNX.out).symm, HX6.out⟩
end Go.Proofs.Ytodnkahnbidgaaa
namespace Go.Proofs.Ytodnkahnbidgaaa
open Go.RowKit
theorem rgOf {lo hi : Nat} {w w' : World} (_ : Upd (fun b => lo ≤ b ∧ b < hi) w w') : ∀ b, (lo ≤ b ∧ b < hi) → lo ≤ b ∧ b < hi := fun _ hb => hb
theorem sum_len_le {b : Nat} {xss : List (List Int)} (h : ∀ r ∈ xss, r.length ≤ b) : (xss.map List.length).sum ≤ b * xss.length := by
  induction xss with
  | nil => simp
  | cons r rs ih =>
    have h1 := h r (by simp)
    have h2 := ih (fun q hq => h q (by simp [hq]))
    simp only [List.map_cons, List.sum_cons, List.length_cons]
    rw [Nat.mul_add]; omega
theorem Small.of_rows8 {xss : List (List Int)} (h1 : xss.length ≤ 8) (h2 : ∀ k, k < xss.length → (rowAt xss k).length ≤ 8) : Small xss := by
  have h3 := sum_len_le (b := 8) (xss := xss) (fun r hr => by
    obtain ⟨i, hi, rfl⟩ := List.getElem_of_mem hr
    have := h2 i hi; rwa [rowAt_eq hi] at this)
  exact Small.of_bound (by omega)
end Go.Proofs.Ytodnkahnbidgaaa
namespace Go.Proofs.Ytodnkahnbidgaaa
open Go.RowKit

theorem gdRun_rc {x Q : List (List Int)} {down up : Int} : ∀ (k : Nat) (P R : List (List Int)), inpB x P Q = true → gdRun x Q down up k P = some R → inpB x R Q = true
  | 0, P, R, _, h => by cases h
  | k + 1, P, R, hi, h => by
    unfold gdRun at h
    split at h
    · simp only [Option.some.injEq] at h
      rw [← h]; exact hi
    · split at h
      · cases h
      · rename_i s hs
        have hr := pat_rc (inpB_true hi).1
        obtain ⟨a, b, ha, hb, _, rfl⟩ := gdNext_cell hr hs
        exact gdRun_rc k _ R (inp_set hi ha hb) h
theorem gdV_small (x Q : List (List Int)) (down up : Int) : PlSmall (gdV x Q down up) := by
  unfold gdV
  cases h : gdG x Q down up with
  | none => exact Small.of_rows8 (by simp [plOf]) (fun k hk => by simp [plOf] at hk)
  | some R =>
    unfold gdG at h
    split at h
    · rename_i hc
      have hp : pubB x Q = true := by simp only [cpB, Bool.and_eq_true] at hc; exact hc.1
      have hi := gdRun_rc _ _ _ (inp_self hp) h
      have hr := pat_rc (inpB_true hi).1
      have hd := atk_dims hp
      exact Small.of_rows8 (xss := R) (by rw [hr.len]; omega) (fun k hk => by rw [hr.row k (by rw [← hr.len]; exact hk)]; omega)
    · cases h

set_option maxHeartbeats 3200000 in
theorem lawGreedyPlan_c (v0 : Value) (xs0 : List (List Int)) (v1 : Value) (xs1 : List (List Int)) (a2 : Int) (a3 : Int) (w : World) (h0 : Grid w v0 xs0) (h1 : Grid w v1 xs1) (_ : WfG xs0) (_ : WfG xs1) (i2 : -9223372036854775808 ≤ a2 ∧ a2 ≤ 9223372036854775807) (i3 : -9223372036854775808 ≤ a3 ∧ a3 ≤ 9223372036854775807) :
    Calls Try.prog 4 #[v0, v1, .int .i64 a2, .int .i64 a3] w fun e w' => e = .returned (.bool true) ∧ Ext w w' := by
  have H0 := Lib.hid h0; clear h0
  have H1 := Lib.hid h1; clear h1
  have I2 := Lib.hid i2; clear i2
  have I3 := Lib.hid i3; clear i3
  have v0 := (Ext.refl w)
  obtain ⟨V0, hV0⟩ : ∃ V, gdV xs0 xs1 a2 a3 = V := ⟨_, rfl⟩
  have HV0 := Lib.hid hV0; clear hV0
  obtain ⟨V1, hV1⟩ : ∃ V, gdB xs0 xs1 a2 a3 = V := ⟨_, rfl⟩
  have HV1 := Lib.hid hV1; clear hV1
  have qv1 : (V1 != V1) = false := by simp
  go_enter Try.func4, Try.ntmps4
  obtain ⟨t0, ht0⟩ : ∃ t, szG 1048576 xs0 = t := ⟨_, rfl⟩
  have T0 := Lib.hid ht0; clear ht0
  go_wp2_with fail
  refine (szIntSS_c _ xs0 1048576 _ (H0.out.ext v0) (by omega)).mono ?_
  rw [T0.out]
  rintro e w' ⟨rfl, rfl⟩
  by_cases hz0 : t0 < 0
  · go_wp2
    go_ret
    exact ⟨rfl, v0⟩
  have tr0 : 0 ≤ t0 ∧ t0 ≤ 1048576 := by have h1 := T0.out; have h2 := szG_range (left := 1048576) (xss := xs0) (by omega); omega
  have S0 := Lib.hid (Small.of_szG (left := 1048576) (xss := xs0) (by omega) (by have h1 := T0.out; omega))
  obtain ⟨t1, ht1⟩ : ∃ t, szG t0 xs1 = t := ⟨_, rfl⟩
  have T1 := Lib.hid ht1; clear ht1
  go_wp2_with fail
  refine (szIntSS_c _ xs1 t0 _ (H1.out.ext v0) (by omega)).mono ?_
  rw [T1.out]
  rintro e w' ⟨rfl, rfl⟩
  by_cases hz1 : t1 < 0
  · go_wp2
    go_ret
    exact ⟨rfl, v0⟩
  have tr1 : 0 ≤ t1 ∧ t1 ≤ 1048576 := by have h1 := T1.out; have h2 := szG_range (left := t0) (xss := xs1) (by omega); omega
  have S1 := Lib.hid (Small.of_szG (left := t0) (xss := xs1) (by omega) (by have h1 := T1.out; omega))
  obtain ⟨k0, hk0⟩ : ∃ k, 1 + (psum xs0 xs0.length : Int) = k := ⟨_, rfl⟩
  have kb0 : 1 ≤ k0 ∧ k0 ≤ 1048577 := by have h1 := S0.out.psum xs0.length (Nat.le_refl _); omega
  have HK0 := Lib.hid hk0; clear hk0
  obtain ⟨k1, hk1⟩ : ∃ k, k0 + (psum xs1 xs1.length : Int) = k := ⟨_, rfl⟩
  have kb1 : 1 ≤ k1 ∧ k1 ≤ 2097153 := by have h1 := S1.out.psum xs1.length (Nat.le_refl _); omega
  have HK1 := Lib.hid hk1; clear hk1
  have kn : ¬ (k1 < 0) := by omega
  have kd : decide (k1 < 0) = false := by simp; omega
  have RS0 := Lib.hid (show PlSmall V0 by rw [← HV0.out]; exact gdV_small _ _ _ _)
  obtain ⟨m0, hm0⟩ : ∃ m, 1 + PlSize V0 = m := ⟨_, rfl⟩
  have mb0 : 1 ≤ m0 ∧ m0 ≤ 4194305 := by have h1 := RS0.out.size; omega
  have HM0 := Lib.hid hm0; clear hm0
  have mn0 : ¬ (m0 < 0) := by omega
  have md0 : decide (m0 < 0) = false := by simp; omega
  have mq : (m0 != m0) = false := by simp
  go_wp2_with fail
  refine (toIntSS_c _ xs0 _ (H0.out.ext v0) S0.out.len S0.out.row).mono ?_
  rintro e w3 ⟨x3, r3, rfl, o3, u3⟩
  have v3 := v0.trans u3
  have SZ3 := Lib.hid u3.size
  have O3 := Lib.hid o3
  clear o3
  have RS_3 := Lib.hid u3.size
  go_wp2_with fail
  refine (toIntSS_c _ xs1 _ (H1.out.ext v3) S1.out.len S1.out.row).mono ?_
  rintro e w4 ⟨x4, r4, rfl, o4, u4⟩
  have v4 := v3.trans u4
  have SZ4 := Lib.hid u4.size
  have O4 := Lib.hid o4
  clear o4
  have RS_4 := Lib.hid u4.size
  go_wp2_with fail
  refine (specGd_c _ xs0 _ xs1 a2 a3 _ (O3.out.ext u4).grid O4.out.grid ).mono ?_
  rw [HV0.out]
  rw [HV1.out]
  rintro e w5 ⟨x5, rfl, o5, u5⟩
  have v5 := v4.trans u5
  have SZ5 := Lib.hid u5.size
  have O5 := Lib.hid o5
  clear o5
  have RS_5 := Lib.hid u5.size
  obtain ⟨a5_0, cp5_0, hxx5, _⟩ := O5.out.read.form
  subst hxx5
  have bo5 := Box.new w5 30 #[.slice a5_0 V0.cells.length cp5_0, .int .i64 V0.hidden, .int .i64 V0.total] rfl
  have u6 := (Ext.refl w5).alloc (.cells #[.slice a5_0 V0.cells.length cp5_0, .int .i64 V0.hidden, .int .i64 V0.total] 30)
  have v6 := v5.trans u6
  have SZ6 := Lib.hid u6.size
  have SA6 : Hid ((w5.alloc (.cells #[.slice a5_0 V0.cells.length cp5_0, .int .i64 V0.hidden, .int .i64 V0.total] 30)).heap.size = w5.heap.size + 1) := Lib.hid (by simp)
  go_wp2_with fail
  refine (toIntSS_c _ xs0 _ (H0.out.ext v6) S0.out.len S0.out.row).mono ?_
  rintro e w7 ⟨x7, r7, rfl, o7, u7⟩
  have v7 := v6.trans u7
  have SZ7 := Lib.hid u7.size
  have O7 := Lib.hid o7
  clear o7
  have RS_7 := Lib.hid u7.size
  go_wp2_with fail
  refine (toIntSS_c _ xs1 _ (H1.out.ext v7) S1.out.len S1.out.row).mono ?_
  rintro e w8 ⟨x8, r8, rfl, o8, u8⟩
  have v8 := v7.trans u8
  have SZ8 := Lib.hid u8.size
  have O8 := Lib.hid o8
  clear o8
  have RS_8 := Lib.hid u8.size
  go_wp2_with fail
  refine (implGd_c _ xs0 _ xs1 a2 a3 _ (O7.out.ext u8).grid O8.out.grid ).mono ?_
  rw [HV0.out]
  rw [HV1.out]
  rintro e w9 ⟨x9, rfl, o9, u9⟩
  have v9 := v8.trans u9
  have SZ9 := Lib.hid u9.size
  have O9 := Lib.hid o9
  clear o9
  have RS_9 := Lib.hid u9.size
  obtain ⟨a9_0, cp9_0, hxx9, _⟩ := O9.out.read.form
  subst hxx9
  have bo9 := Box.new w9 30 #[.slice a9_0 V0.cells.length cp9_0, .int .i64 V0.hidden, .int .i64 V0.total] rfl
  have u10 := (Ext.refl w9).alloc (.cells #[.slice a9_0 V0.cells.length cp9_0, .int .i64 V0.hidden, .int .i64 V0.total] 30)
  have v10 := v9.trans u10
  have SZ10 := Lib.hid u10.size
  have SA10 : Hid ((w9.alloc (.cells #[.slice a9_0 V0.cells.length cp9_0, .int .i64 V0.hidden, .int .i64 V0.total] 30)).heap.size = w9.heap.size + 1) := Lib.hid (by simp)
  have bx11 := bo9
  have cx11_0 := bx11.cell 0 (by simp)
  have cx11_1 := bx11.cell 1 (by simp)
  have cx11_2 := bx11.cell 2 (by simp)
  have bx12 := ((((bo5.ext u7).ext u8).ext u9).ext u10)
  have cx12_0 := bx12.cell 0 (by simp)
  have cx12_1 := bx12.cell 1 (by simp)
  have cx12_2 := bx12.cell 2 (by simp)
  go_wp2_with fail
  refine (eqPlan_t _ _ V0 _ (O9.out.ext u10).read (((((O5.out.ext u6).ext u7).ext u8).ext u9).ext u10).read).mono ?_
  rintro e w13 ⟨rfl, u13⟩
  have v13 := v10.trans u13
  have SZ13 := Lib.hid u13.size
  go_wp2_with fail
  refine (toIntSS_c _ xs0 _ (H0.out.ext v13) S0.out.len S0.out.row).mono ?_
  rintro e w14 ⟨x14, r14, rfl, o14, u14⟩
  have v14 := v13.trans u14
  have SZ14 := Lib.hid u14.size
  have O14 := Lib.hid o14
  clear o14
  have RS_14 := Lib.hid u14.size
  go_wp2_with fail
  refine (eqIntSS_b true _ _ xs0 xs0 _ (by simp) (((((O7.out.ext u8).ext u9).ext u10).ext u13).ext u14).grid O14.out.grid).mono ?_
  rintro e w15 ⟨rfl, d15⟩
  have u15 := Drew.ext d15
  have v15 := v14.trans u15
  have SZ15 := Lib.hid u15.size
  go_wp2_with fail
  refine (toIntSS_c _ xs1 _ (H1.out.ext v15) S1.out.len S1.out.row).mono ?_
  rintro e w16 ⟨x16, r16, rfl, o16, u16⟩
  have v16 := v15.trans u16
  have SZ16 := Lib.hid u16.size
  have O16 := Lib.hid o16
  clear o16
  have RS_16 := Lib.hid u16.size
  go_wp2_with fail
  refine (eqIntSS_b true _ _ xs1 xs1 _ (by simp) ((((((O8.out.ext u9).ext u10).ext u13).ext u14).ext u15).ext u16).grid O16.out.grid).mono ?_
  rintro e w17 ⟨rfl, d17⟩
  have u17 := Drew.ext d17
  have v17 := v16.trans u17
  have SZ17 := Lib.hid u17.size
  go_wp2_with fail
  refine (markIntSS_c _ _ _ _ xs0 1 _ ((((((((O7.out.ext u8).ext u9).ext u10).ext u13).ext u14).ext u15).ext u16).ext u17) S0.out.row S0.out.psum (by omega)).mono ?_
  rw [HK0.out]
  rintro e w18 ⟨rfl, ⟨ys18, o18, mk18⟩, u18⟩
  have OM18 := Lib.hid o18; clear o18
  have MK18 := Lib.hid mk18; clear mk18
  have U18 := Lib.hid u18; clear u18
  have RG18 : Hid (∀ b, rowBlks r7 xs0 b → _ ∧ b < _) := Lib.hid (fun b hb => by have := O7.out.blks hb; exact ⟨this.1, this.2.1⟩)
  have v18 := v17.of_upd U18.out (fun b hb => by have := RG18.out b hb; have := SZ3.out; have := SZ4.out; have := SZ5.out; have := SZ6.out; have := SA6.out; have := SZ7.out; have := SZ8.out; have := SZ9.out; have := SZ10.out; have := SA10.out; have := SZ13.out; have := SZ14.out; have := SZ15.out; have := SZ16.out; have := SZ17.out; omega)
  have SZ18 := Lib.hid U18.out.size
  go_wp2_with fail
  refine (markIntSS_c _ _ _ _ xs1 k0 _ ((((((((O8.out.ext u9).ext u10).ext u13).ext u14).ext u15).ext u16).ext u17).away U18.out (fun b hb => by have := RG18.out b hb; have := RS_7.out; have := RS_8.out; have := SZ3.out; have := SZ4.out; have := SZ5.out; have := SZ6.out; have := SA6.out; have := SZ7.out; have := SZ8.out; have := SZ9.out; have := SZ10.out; have := SA10.out; have := SZ13.out; have := SZ14.out; have := SZ15.out; have := SZ16.out; have := SZ17.out; have := SZ18.out; omega)) S1.out.row S1.out.psum (by omega)).mono ?_
  rw [HK1.out]
  rintro e w19 ⟨rfl, ⟨ys19, o19, mk19⟩, u19⟩
  have OM19 := Lib.hid o19; clear o19
  have MK19 := Lib.hid mk19; clear mk19
  have U19 := Lib.hid u19; clear u19
  have RG19 : Hid (∀ b, rowBlks r8 xs1 b → _ ∧ b < _) := Lib.hid (fun b hb => by have := O8.out.blks hb; exact ⟨this.1, this.2.1⟩)
  have v19 := v18.of_upd U19.out (fun b hb => by have := RG19.out b hb; have := SZ3.out; have := SZ4.out; have := SZ5.out; have := SZ6.out; have := SA6.out; have := SZ7.out; have := SZ8.out; have := SZ9.out; have := SZ10.out; have := SA10.out; have := SZ13.out; have := SZ14.out; have := SZ15.out; have := SZ16.out; have := SZ17.out; have := SZ18.out; omega)
  have SZ19 := Lib.hid U19.out.size
  have bx20 := (((((((bo9.ext u13).ext u14).ext u15).ext u16).ext u17).upd U18.out (fun hb => by have := RG18.out _ hb; have := RS_7.out; have := SZ3.out; have := SZ4.out; have := SZ5.out; have := SZ6.out; have := SA6.out; have := SZ7.out; have := SZ8.out; have := SZ9.out; have := SZ10.out; have := SA10.out; have := SZ13.out; have := SZ14.out; have := SZ15.out; have := SZ16.out; have := SZ17.out; have := SZ18.out; have := SZ19.out; omega)).upd U19.out (fun hb => by have := RG19.out _ hb; have := RS_8.out; have := SZ3.out; have := SZ4.out; have := SZ5.out; have := SZ6.out; have := SA6.out; have := SZ7.out; have := SZ8.out; have := SZ9.out; have := SZ10.out; have := SA10.out; have := SZ13.out; have := SZ14.out; have := SZ15.out; have := SZ16.out; have := SZ17.out; have := SZ18.out; have := SZ19.out; omega))
  have cx20_0 := bx20.cell 0 (by simp)
  have cx20_1 := bx20.cell 1 (by simp)
  have cx20_2 := bx20.cell 2 (by simp)
  have bx21 := (((((((((((bo5.ext u7).ext u8).ext u9).ext u10).ext u13).ext u14).ext u15).ext u16).ext u17).upd U18.out (fun hb => by have := RG18.out _ hb; have := RS_7.out; have := SZ3.out; have := SZ4.out; have := SZ5.out; have := SZ6.out; have := SA6.out; have := SZ7.out; have := SZ8.out; have := SZ9.out; have := SZ10.out; have := SA10.out; have := SZ13.out; have := SZ14.out; have := SZ15.out; have := SZ16.out; have := SZ17.out; have := SZ18.out; have := SZ19.out; omega)).upd U19.out (fun hb => by have := RG19.out _ hb; have := RS_8.out; have := SZ3.out; have := SZ4.out; have := SZ5.out; have := SZ6.out; have := SA6.out; have := SZ7.out; have := SZ8.out; have := SZ9.out; have := SZ10.out; have := SA10.out; have := SZ13.out; have := SZ14.out; have := SZ15.out; have := SZ16.out; have := SZ17.out; have := SZ18.out; have := SZ19.out; omega))
  have cx21_0 := bx21.cell 0 (by simp)
  have cx21_1 := bx21.cell 1 (by simp)
  have cx21_2 := bx21.cell 2 (by simp)
  go_wp2_with fail
  refine (eqPlan_t _ _ V0 _ ((((((((O9.out.ext u10).ext u13).ext u14).ext u15).ext u16).ext u17).away U18.out (fun b hb => by have := RG18.out b hb; have := RS_7.out; have := RS_9.out; have := SZ3.out; have := SZ4.out; have := SZ5.out; have := SZ6.out; have := SA6.out; have := SZ7.out; have := SZ8.out; have := SZ9.out; have := SZ10.out; have := SA10.out; have := SZ13.out; have := SZ14.out; have := SZ15.out; have := SZ16.out; have := SZ17.out; have := SZ18.out; have := SZ19.out; omega)).away U19.out (fun b hb => by have := RG19.out b hb; have := RS_8.out; have := RS_9.out; have := SZ3.out; have := SZ4.out; have := SZ5.out; have := SZ6.out; have := SA6.out; have := SZ7.out; have := SZ8.out; have := SZ9.out; have := SZ10.out; have := SA10.out; have := SZ13.out; have := SZ14.out; have := SZ15.out; have := SZ16.out; have := SZ17.out; have := SZ18.out; have := SZ19.out; omega)).read ((((((((((((O5.out.ext u6).ext u7).ext u8).ext u9).ext u10).ext u13).ext u14).ext u15).ext u16).ext u17).away U18.out (fun b hb => by have := RG18.out b hb; have := RS_7.out; have := RS_5.out; have := SZ3.out; have := SZ4.out; have := SZ5.out; have := SZ6.out; have := SA6.out; have := SZ7.out; have := SZ8.out; have := SZ9.out; have := SZ10.out; have := SA10.out; have := SZ13.out; have := SZ14.out; have := SZ15.out; have := SZ16.out; have := SZ17.out; have := SZ18.out; have := SZ19.out; omega)).away U19.out (fun b hb => by have := RG19.out b hb; have := RS_8.out; have := RS_5.out; have := SZ3.out; have := SZ4.out; have := SZ5.out; have := SZ6.out; have := SA6.out; have := SZ7.out; have := SZ8.out; have := SZ9.out; have := SZ10.out; have := SA10.out; have := SZ13.out; have := SZ14.out; have := SZ15.out; have := SZ16.out; have := SZ17.out; have := SZ18.out; have := SZ19.out; omega)).read).mono ?_
  rintro e w22 ⟨rfl, u22⟩
  have v22 := v19.trans u22
  have SZ22 := Lib.hid u22.size
  have bx23 := ((((((((bo9.ext u13).ext u14).ext u15).ext u16).ext u17).upd U18.out (fun hb => by have := RG18.out _ hb; have := RS_7.out; have := SZ3.out; have := SZ4.out; have := SZ5.out; have := SZ6.out; have := SA6.out; have := SZ7.out; have := SZ8.out; have := SZ9.out; have := SZ10.out; have := SA10.out; have := SZ13.out; have := SZ14.out; have := SZ15.out; have := SZ16.out; have := SZ17.out; have := SZ18.out; have := SZ19.out; have := SZ22.out; omega)).upd U19.out (fun hb => by have := RG19.out _ hb; have := RS_8.out; have := SZ3.out; have := SZ4.out; have := SZ5.out; have := SZ6.out; have := SA6.out; have := SZ7.out; have := SZ8.out; have := SZ9.out; have := SZ10.out; have := SA10.out; have := SZ13.out; have := SZ14.out; have := SZ15.out; have := SZ16.out; have := SZ17.out; have := SZ18.out; have := SZ19.out; have := SZ22.out; omega)).ext u22)
  have cx23_0 := bx23.cell 0 (by simp)
  have cx23_1 := bx23.cell 1 (by simp)
  have cx23_2 := bx23.cell 2 (by simp)
  go_wp2_with fail
  refine (markPlan_c _ _ _ V0 1 _ (((((((((O9.out.ext u10).ext u13).ext u14).ext u15).ext u16).ext u17).away U18.out (fun b hb => by have := RG18.out b hb; have := RS_7.out; have := RS_9.out; have := SZ3.out; have := SZ4.out; have := SZ5.out; have := SZ6.out; have := SA6.out; have := SZ7.out; have := SZ8.out; have := SZ9.out; have := SZ10.out; have := SA10.out; have := SZ13.out; have := SZ14.out; have := SZ15.out; have := SZ16.out; have := SZ17.out; have := SZ18.out; have := SZ19.out; have := SZ22.out; omega)).away U19.out (fun b hb => by have := RG19.out b hb; have := RS_8.out; have := RS_9.out; have := SZ3.out; have := SZ4.out; have := SZ5.out; have := SZ6.out; have := SA6.out; have := SZ7.out; have := SZ8.out; have := SZ9.out; have := SZ10.out; have := SA10.out; have := SZ13.out; have := SZ14.out; have := SZ15.out; have := SZ16.out; have := SZ17.out; have := SZ18.out; have := SZ19.out; have := SZ22.out; omega)).ext u22) RS0.out (by omega)).mono ?_
  rw [HM0.out]
  rintro e w24 ⟨rfl, ⟨ys24, o24, mk24⟩, u24⟩
  have OM24 := Lib.hid o24; clear o24
  have MK24 := Lib.hid mk24; clear mk24
  have U24 := Lib.hid u24; clear u24
  have RG24 := Lib.hid (rgOf U24.out)
  have v24 := v22.of_upd U24.out (fun b hb => by have := RG24.out b hb; have := SZ3.out; have := SZ4.out; have := SZ5.out; have := SZ6.out; have := SA6.out; have := SZ7.out; have := SZ8.out; have := SZ9.out; have := SZ10.out; have := SA10.out; have := SZ13.out; have := SZ14.out; have := SZ15.out; have := SZ16.out; have := SZ17.out; have := SZ18.out; have := SZ19.out; have := SZ22.out; omega)
  have SZ24 := Lib.hid U24.out.size
  have bx25 := (((((((((bo9.ext u13).ext u14).ext u15).ext u16).ext u17).upd U18.out (fun hb => by have := RG18.out _ hb; have := RS_7.out; have := SZ3.out; have := SZ4.out; have := SZ5.out; have := SZ6.out; have := SA6.out; have := SZ7.out; have := SZ8.out; have := SZ9.out; have := SZ10.out; have := SA10.out; have := SZ13.out; have := SZ14.out; have := SZ15.out; have := SZ16.out; have := SZ17.out; have := SZ18.out; have := SZ19.out; have := SZ22.out; have := SZ24.out; omega)).upd U19.out (fun hb => by have := RG19.out _ hb; have := RS_8.out; have := SZ3.out; have := SZ4.out; have := SZ5.out; have := SZ6.out; have := SA6.out; have := SZ7.out; have := SZ8.out; have := SZ9.out; have := SZ10.out; have := SA10.out; have := SZ13.out; have := SZ14.out; have := SZ15.out; have := SZ16.out; have := SZ17.out; have := SZ18.out; have := SZ19.out; have := SZ22.out; have := SZ24.out; omega)).ext u22).upd U24.out (fun hb => by have := RG24.out _ hb; have := RS_9.out; have := SZ3.out; have := SZ4.out; have := SZ5.out; have := SZ6.out; have := SA6.out; have := SZ7.out; have := SZ8.out; have := SZ9.out; have := SZ10.out; have := SA10.out; have := SZ13.out; have := SZ14.out; have := SZ15.out; have := SZ16.out; have := SZ17.out; have := SZ18.out; have := SZ19.out; have := SZ22.out; have := SZ24.out; omega))
  have cx25_0 := bx25.cell 0 (by simp)
  have cx25_1 := bx25.cell 1 (by simp)
  have cx25_2 := bx25.cell 2 (by simp)
  go_wp2_with fail
  refine (heldPlan_c _ V0 ys24 1 _ OM24.out.read MK24.out RS0.out (by omega)).mono ?_
  rw [HM0.out]
  rintro e w26 ⟨rfl, u26⟩
  have v26 := v24.trans u26
  have SZ26 := Lib.hid u26.size
  go_wp2_with fail
  refine (toIntSS_c _ xs0 _ (H0.out.ext v26) S0.out.len S0.out.row).mono ?_
  rintro e w27 ⟨x27, r27, rfl, o27, u27⟩
  have v27 := v26.trans u27
  have SZ27 := Lib.hid u27.size
  have O27 := Lib.hid o27
  clear o27
  have RS_27 := Lib.hid u27.size
  go_wp2_with fail
  refine (toIntSS_c _ xs1 _ (H1.out.ext v27) S1.out.len S1.out.row).mono ?_
  rintro e w28 ⟨x28, r28, rfl, o28, u28⟩
  have v28 := v27.trans u28
  have SZ28 := Lib.hid u28.size
  have O28 := Lib.hid o28
  clear o28
  have RS_28 := Lib.hid u28.size
  go_wp2_with fail
  refine (implGd_c _ xs0 _ xs1 a2 a3 _ (O27.out.ext u28).grid O28.out.grid ).mono ?_
  rw [HV0.out]
  rw [HV1.out]
  rintro e w29 ⟨x29, rfl, o29, u29⟩
  have v29 := v28.trans u29
  have SZ29 := Lib.hid u29.size
  have O29 := Lib.hid o29
  clear o29
  have RS_29 := Lib.hid u29.size
  obtain ⟨a29_0, cp29_0, hxx29, _⟩ := O29.out.read.form
  subst hxx29
  have bo29 := Box.new w29 30 #[.slice a29_0 V0.cells.length cp29_0, .int .i64 V0.hidden, .int .i64 V0.total] rfl
  have u30 := (Ext.refl w29).alloc (.cells #[.slice a29_0 V0.cells.length cp29_0, .int .i64 V0.hidden, .int .i64 V0.total] 30)
  have v30 := v29.trans u30
  have SZ30 := Lib.hid u30.size
  have SA30 : Hid ((w29.alloc (.cells #[.slice a29_0 V0.cells.length cp29_0, .int .i64 V0.hidden, .int .i64 V0.total] 30)).heap.size = w29.heap.size + 1) := Lib.hid (by simp)
  have bx31 := bo29
  have cx31_0 := bx31.cell 0 (by simp)
  have cx31_1 := bx31.cell 1 (by simp)
  have cx31_2 := bx31.cell 2 (by simp)
  have bx32 := ((((((((((((((((((bo5.ext u7).ext u8).ext u9).ext u10).ext u13).ext u14).ext u15).ext u16).ext u17).upd U18.out (fun hb => by have := RG18.out _ hb; have := RS_7.out; have := SZ3.out; have := SZ4.out; have := SZ5.out; have := SZ6.out; have := SA6.out; have := SZ7.out; have := SZ8.out; have := SZ9.out; have := SZ10.out; have := SA10.out; have := SZ13.out; have := SZ14.out; have := SZ15.out; have := SZ16.out; have := SZ17.out; have := SZ18.out; have := SZ19.out; have := SZ22.out; have := SZ24.out; have := SZ26.out; have := SZ27.out; have := SZ28.out; have := SZ29.out; have := SZ30.out; have := SA30.out; omega)).upd U19.out (fun hb => by have := RG19.out _ hb; have := RS_8.out; have := SZ3.out; have := SZ4.out; have := SZ5.out; have := SZ6.out; have := SA6.out; have := SZ7.out; have := SZ8.out; have := SZ9.out; have := SZ10.out; have := SA10.out; have := SZ13.out; have := SZ14.out; have := SZ15.out; have := SZ16.out; have := SZ17.out; have := SZ18.out; have := SZ19.out; have := SZ22.out; have := SZ24.out; have := SZ26.out; have := SZ27.out; have := SZ28.out; have := SZ29.out; have := SZ30.out; have := SA30.out; omega)).ext u22).upd U24.out (fun hb => by have := RG24.out _ hb; have := RS_9.out; have := SZ3.out; have := SZ4.out; have := SZ5.out; have := SZ6.out; have := SA6.out; have := SZ7.out; have := SZ8.out; have := SZ9.out; have := SZ10.out; have := SA10.out; have := SZ13.out; have := SZ14.out; have := SZ15.out; have := SZ16.out; have := SZ17.out; have := SZ18.out; have := SZ19.out; have := SZ22.out; have := SZ24.out; have := SZ26.out; have := SZ27.out; have := SZ28.out; have := SZ29.out; have := SZ30.out; have := SA30.out; omega)).ext u26).ext u27).ext u28).ext u29).ext u30)
  have cx32_0 := bx32.cell 0 (by simp)
  have cx32_1 := bx32.cell 1 (by simp)
  have cx32_2 := bx32.cell 2 (by simp)
  go_wp2_with fail
  refine (eqPlan_t _ _ V0 _ (O29.out.ext u30).read (((((((((((((((((((O5.out.ext u6).ext u7).ext u8).ext u9).ext u10).ext u13).ext u14).ext u15).ext u16).ext u17).away U18.out (fun b hb => by have := RG18.out b hb; have := RS_7.out; have := RS_5.out; have := SZ3.out; have := SZ4.out; have := SZ5.out; have := SZ6.out; have := SA6.out; have := SZ7.out; have := SZ8.out; have := SZ9.out; have := SZ10.out; have := SA10.out; have := SZ13.out; have := SZ14.out; have := SZ15.out; have := SZ16.out; have := SZ17.out; have := SZ18.out; have := SZ19.out; have := SZ22.out; have := SZ24.out; have := SZ26.out; have := SZ27.out; have := SZ28.out; have := SZ29.out; have := SZ30.out; have := SA30.out; omega)).away U19.out (fun b hb => by have := RG19.out b hb; have := RS_8.out; have := RS_5.out; have := SZ3.out; have := SZ4.out; have := SZ5.out; have := SZ6.out; have := SA6.out; have := SZ7.out; have := SZ8.out; have := SZ9.out; have := SZ10.out; have := SA10.out; have := SZ13.out; have := SZ14.out; have := SZ15.out; have := SZ16.out; have := SZ17.out; have := SZ18.out; have := SZ19.out; have := SZ22.out; have := SZ24.out; have := SZ26.out; have := SZ27.out; have := SZ28.out; have := SZ29.out; have := SZ30.out; have := SA30.out; omega)).ext u22).away U24.out (fun b hb => by have := RG24.out b hb; have := RS_9.out; have := RS_5.out; have := SZ3.out; have := SZ4.out; have := SZ5.out; have := SZ6.out; have := SA6.out; have := SZ7.out; have := SZ8.out; have := SZ9.out; have := SZ10.out; have := SA10.out; have := SZ13.out; have := SZ14.out; have := SZ15.out; have := SZ16.out; have := SZ17.out; have := SZ18.out; have := SZ19.out; have := SZ22.out; have := SZ24.out; have := SZ26.out; have := SZ27.out; have := SZ28.out; have := SZ29.out; have := SZ30.out; have := SA30.out; omega)).ext u26).ext u27).ext u28).ext u29).ext u30).read).mono ?_
  rintro e w33 ⟨rfl, u33⟩
  have v33 := v30.trans u33
  have SZ33 := Lib.hid u33.size
  have bx34 := (((((((((((((((bo9.ext u13).ext u14).ext u15).ext u16).ext u17).upd U18.out (fun hb => by have := RG18.out _ hb; have := RS_7.out; have := SZ3.out; have := SZ4.out; have := SZ5.out; have := SZ6.out; have := SA6.out; have := SZ7.out; have := SZ8.out; have := SZ9.out; have := SZ10.out; have := SA10.out; have := SZ13.out; have := SZ14.out; have := SZ15.out; have := SZ16.out; have := SZ17.out; have := SZ18.out; have := SZ19.out; have := SZ22.out; have := SZ24.out; have := SZ26.out; have := SZ27.out; have := SZ28.out; have := SZ29.out; have := SZ30.out; have := SA30.out; have := SZ33.out; omega)).upd U19.out (fun hb => by have := RG19.out _ hb; have := RS_8.out; have := SZ3.out; have := SZ4.out; have := SZ5.out; have := SZ6.out; have := SA6.out; have := SZ7.out; have := SZ8.out; have := SZ9.out; have := SZ10.out; have := SA10.out; have := SZ13.out; have := SZ14.out; have := SZ15.out; have := SZ16.out; have := SZ17.out; have := SZ18.out; have := SZ19.out; have := SZ22.out; have := SZ24.out; have := SZ26.out; have := SZ27.out; have := SZ28.out; have := SZ29.out; have := SZ30.out; have := SA30.out; have := SZ33.out; omega)).ext u22).upd U24.out (fun hb => by have := RG24.out _ hb; have := RS_9.out; have := SZ3.out; have := SZ4.out; have := SZ5.out; have := SZ6.out; have := SA6.out; have := SZ7.out; have := SZ8.out; have := SZ9.out; have := SZ10.out; have := SA10.out; have := SZ13.out; have := SZ14.out; have := SZ15.out; have := SZ16.out; have := SZ17.out; have := SZ18.out; have := SZ19.out; have := SZ22.out; have := SZ24.out; have := SZ26.out; have := SZ27.out; have := SZ28.out; have := SZ29.out; have := SZ30.out; have := SA30.out; have := SZ33.out; omega)).ext u26).ext u27).ext u28).ext u29).ext u30).ext u33)
  have cx34_0 := bx34.cell 0 (by simp)
  have cx34_1 := bx34.cell 1 (by simp)
  have cx34_2 := bx34.cell 2 (by simp)
  go_wp2_with fail
  refine (heldPlan_c _ V0 ys24 1 _ ((((((OM24.out.ext u26).ext u27).ext u28).ext u29).ext u30).ext u33).read MK24.out RS0.out (by omega)).mono ?_
  rw [HM0.out]
  rintro e w35 ⟨rfl, u35⟩
  have v35 := v33.trans u35
  have SZ35 := Lib.hid u35.size
  go_wp2
  go_ret
  exact ⟨rfl, v35⟩
end Go.Proofs.Ytodnkahnbidgaaa
