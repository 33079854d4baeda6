/- KeepsCounts: how many records have an area and a key, plain; the append of a list of records. -/
import Derived.Test.YtedkhopclgjicaaInp
import Derived.Test.YtedkhopclgjicaaPeB
import Derived.Test.YtedkhopclgjicaaApp
import Derived.Deep.Upon
import Derived.Lib.AppendZeros
namespace Go.Proofs.Ytedkhopclgjicaa
open Go.RowKit

def kAt (s : List Vr) (l : List Pe) (vars : List Int) (i : Nat) : Int := keyL s (peAt l i).vals vars
/-- how many of the first n records have an area and a key -/
def kcnt (s : List Vr) (l : List Pe) (vars : List Int) (ar key : Int) (n : Nat) : Nat := ((List.range n).filter fun i => decide ((peAt l i).area = ar ∧ kAt s l vars i = key)).length
theorem kcnt_zero (s : List Vr) (l : List Pe) (vars : List Int) (ar key : Int) : kcnt s l vars ar key 0 = 0 := rfl
theorem kcnt_yes {s : List Vr} {l : List Pe} {vars : List Int} {ar key : Int} {n : Nat} (h : (peAt l n).area = ar ∧ kAt s l vars n = key) : kcnt s l vars ar key (n + 1) = kcnt s l vars ar key n + 1 := by
  simp [kcnt, List.range_succ, List.filter_append, h]
theorem kcnt_no {s : List Vr} {l : List Pe} {vars : List Int} {ar key : Int} {n : Nat} (h : ¬ ((peAt l n).area = ar ∧ kAt s l vars n = key)) : kcnt s l vars ar key (n + 1) = kcnt s l vars ar key n := by
  have h' : decide ((peAt l n).area = ar ∧ kAt s l vars n = key) = false := by simpa using h
  simp only [kcnt, List.range_succ, List.filter_append, List.filter_cons, List.filter_nil, h']
  simp
theorem kcnt_le (s : List Vr) (l : List Pe) (vars : List Int) (ar key : Int) (n : Nat) : kcnt s l vars ar key n ≤ n := by
  have := List.length_filter_le (fun i => decide ((peAt l i).area = ar ∧ kAt s l vars i = key)) (List.range n)
  simpa [kcnt] using this
theorem kcnt_ne {s : List Vr} {l : List Pe} {vars : List Int} {ar key : Int} {n : Nat} : kcnt s l vars ar key n ≠ 0 ↔ ∃ i, i < n ∧ (peAt l i).area = ar ∧ kAt s l vars i = key := by
  unfold kcnt
  constructor
  · intro h
    obtain ⟨i, hi⟩ := List.exists_mem_of_length_pos (Nat.pos_of_ne_zero h)
    simp only [List.mem_filter, List.mem_range, decide_eq_true_eq] at hi
    exact ⟨i, hi⟩
  · rintro ⟨i, h1, h2⟩ h
    have h3 := List.eq_nil_of_length_eq_zero h
    have h4 : i ∈ (List.range n).filter fun i => decide ((peAt l i).area = ar ∧ kAt s l vars i = key) := by simp only [List.mem_filter, List.mem_range, decide_eq_true_eq]; exact ⟨h1, h2⟩
    rw [h3] at h4; simp at h4
/-- each area has as many records with each key in a as in b -/
def Bal (s : List Vr) (a b : List Pe) (vars : List Int) : Prop := ∀ ar key, kcnt s a vars ar key a.length = kcnt s b vars ar key b.length
/-- record i of a and then b is met by equal counts -/
def BalAt (s : List Vr) (a b : List Pe) (vars : List Int) (i : Nat) : Prop :=
  kcnt s a vars (peAt (a ++ b) i).area (kAt s (a ++ b) vars i) a.length = kcnt s b vars (peAt (a ++ b) i).area (kAt s (a ++ b) vars i) b.length
theorem peAt_left {a b : List Pe} {i : Nat} (h : i < a.length) : peAt (a ++ b) i = peAt a i := by simp [peAt, List.getD, List.getElem?_append_left h]
theorem peAt_right {a b : List Pe} (i : Nat) : peAt (a ++ b) (a.length + i) = peAt b i := by
  simp only [peAt, List.getD]; rw [List.getElem?_append_right (Nat.le_add_right _ _), Nat.add_sub_cancel_left]
theorem bal_of {s : List Vr} {a b : List Pe} {vars : List Int} (h : ∀ i, i < (a ++ b).length → BalAt s a b vars i) : Bal s a b vars := by
  intro ar key
  by_cases ha : kcnt s a vars ar key a.length = 0
  · by_cases hb : kcnt s b vars ar key b.length = 0
    · rw [ha, hb]
    · obtain ⟨i, h1, rfl, rfl⟩ := kcnt_ne.1 hb
      have := h (a.length + i) (by simp; omega)
      unfold BalAt kAt at this
      rw [peAt_right] at this
      exact this
  · obtain ⟨i, h1, rfl, rfl⟩ := kcnt_ne.1 ha
    have := h i (by simp; omega)
    unfold BalAt kAt at this
    rw [peAt_left h1] at this
    exact this
theorem bal_at {s : List Vr} {a b : List Pe} {vars : List Int} (h : Bal s a b vars) (i : Nat) : BalAt s a b vars i := h _ _
noncomputable def kcB (s : List Vr) (a b : List Pe) (vars : List Int) : Bool := inB s a vars && datB s b
open Classical in
noncomputable def kcV (s : List Vr) (a b : List Pe) (vars : List Int) : Bool := inB s a vars && datB s b && decide (Bal s a b vars)
theorem in_other {s : List Vr} {a b : List Pe} {vars : List Int} (h1 : inB s a vars = true) (h2 : datB s b = true) : inB s b vars = true := by
  rw [inB_true] at h1 ⊢
  exact ⟨h1.1, datB_true.1 h2⟩

/-- records that a slice of the call's own reads, their values' slices wherever -/
structure RRow (lo : Nat) (u w : World) (v : Value) (rvs : List Value) (l : List Pe) : Prop where
  own : w.ownsRow lo 46 3 v l.length ((List.range (l.length * 3)).map (peCell rvs l))
  row : ∀ k, k < l.length → Ints u (rvAt rvs k) (peAt l k).vals
  len : rvs.length = l.length
namespace RRow
variable {lo : Nat} {u w w' : World} {v : Value} {rvs : List Value} {l : List Pe}
theorem form (h : RRow lo u w v rvs l) : ∃ a c, v = .slice a l.length c := by
  rcases h.own.2 with ⟨h1, h2⟩ | ⟨g, cp, cur, h1, _⟩
  · exact ⟨none, 0, by rw [h1, h2]⟩
  · exact ⟨_, _, h1⟩
theorem cap {a : Option Addr} {n c : Nat} (h : RRow lo u w (.slice a n c) rvs l) : n ≤ c := by
  rcases h.own.2 with ⟨h1, h2⟩ | ⟨g, cp, cur, h1, _, _, h2, _⟩
  · simp only [Value.slice.injEq] at h1; omega
  · simp only [Value.slice.injEq] at h1; omega
theorem read (h : RRow lo u w v rvs l) (x : Ext u w) : Pes w v l := by
  rcases h.own.2 with ⟨h1, h2⟩ | ⟨g, cap, cur, h1, hb, hg, hnc, hm, hs, ht⟩
  · have h0 : l = [] := List.eq_nil_of_length_eq_zero h2
    subst h0 h1
    exact Pes.nil w
  · have hc : ∀ i, i < l.length * 3 → w.cell? ⟨g, 0 + i, none⟩ = some (peCell rvs l i) := fun i hi => by
      have h3 : ((List.range (l.length * 3)).map (peCell rvs l))[i]? = some (peCell rvs l i) := by simp [hi]
      rw [← ht, List.getElem?_take, if_pos hi] at h3
      rw [Nat.zero_add]
      simp only [World.cell?, hg]
      simpa using h3
    refine ⟨_, cap, h1, hnc, by have := hm; simp only [maxLen] at this; omega, fun k hk => ⟨g, 0, rvAt rvs k, rfl, ?_, ?_, ?_, (h.row k hk).ext x⟩⟩
    · have := hc (k * 3) (by omega); rwa [peCell0] at this
    · have := hc (k * 3 + 1) (by omega); rwa [peCell1] at this
    · have := hc (k * 3 + 2) (by omega); rwa [peCell2] at this
theorem made (u w : World) : RRow w.heap.size u (w.alloc (.cells #[] 46)) (.slice (some ⟨w.heap.size, 0, none⟩) 0 0) [] [] :=
  ⟨And.intro rfl (.inr ⟨w.heap.size, 0, #[], rfl, Nat.le_refl _, Go.Deep.blk_alloc_new _ _, Nat.le_refl _, by simp [maxLen], rfl, rfl⟩), fun k hk => by simp at hk, rfl⟩
end RRow
theorem rvAt_right (r1 r2 : List Value) (k : Nat) : rvAt (r1 ++ r2) (r1.length + k) = rvAt r2 k := by
  simp only [rvAt, List.getD]; rw [List.getElem?_append_right (Nat.le_add_right _ _), Nat.add_sub_cancel_left]
theorem peCell_app {r1 r2 : List Value} {a b : List Pe} (h1 : r1.length = a.length) : (List.range ((a.length + b.length) * 3)).map (peCell (r1 ++ r2) (a ++ b)) = (List.range (a.length * 3)).map (peCell r1 a) ++ (List.range (b.length * 3)).map (peCell r2 b) := by
  rw [Nat.add_mul, List.range_add, List.map_append, List.map_map]
  congr 1
  · refine List.map_congr_left (fun i hi => ?_)
    have hi' : i < a.length * 3 := by simpa using hi
    simp only [peCell, peAt_left (show i / 3 < a.length by omega), rvAt_append_left (show i / 3 < r1.length by omega)]
  · refine List.map_congr_left (fun i hi => ?_)
    have e1 : (a.length * 3 + i) % 3 = i % 3 := by omega
    have e2 : (a.length * 3 + i) / 3 = a.length + i / 3 := by omega
    have e3 : rvAt (r1 ++ r2) (a.length + i / 3) = rvAt r2 (i / 3) := by rw [← h1]; exact rvAt_right _ _ _
    simp only [Function.comp_apply, peCell, e1, e2, e3, peAt_right]

set_option maxHeartbeats 800000 in
/-- appending a list of records, be it empty -/
theorem appP {ops : Array Oper} {rest : List Oper} {o : Oper} {a : Act} {Q : Exit → Act → World → Prop} (w : World) (hgd : o.guard = none) (s x : Operand)
    (ho : o.op = .call { callee := .builtin .append, args := #[s, x], argTypes := #[31, 31] })
    (lo : Nat) (v : Value) (rvs : List Value) (xs : List Pe) (hs : a.eval s = v) (u : World) (hown : RRow lo u w v rvs xs) (sv : Value) (ys : List Pe) (hx : a.eval x = sv) (hy : Pes u sv ys) (hu : Ext u w)
    (hl : xs.length + ys.length ≤ 1048576) (hlo : lo ≤ w.heap.size)
    (h : ∀ v' rvs' w', RRow lo u w' v' rvs' (xs ++ ys) → w.grownBy w' v.ownBlock → wpList Try.prog ops Q rest (a.put o.dst v') w') : wpList Try.prog ops Q (o :: rest) a w := by
  obtain ⟨ao, cap, rfl, h1, h2, h3⟩ := hy
  obtain ⟨i, hi, hz0, hz1, hz2⟩ := info_parts info_record
  obtain ⟨av, cv, rfl⟩ := hown.form
  by_cases hne : ys = []
  · subst hne
    refine Lib.wpList_append_run w hgd s x 31 31 ho _ _ hs hx (.slice av xs.length cv) w ?_ (h _ rvs _ (by simpa using hown) (World.grownBy.refl _ _))
    refine run_append_nothing w 31 31 _ 46 i Try.underlying31 hi av xs.length cv hown.cap _ ?_
    rcases ao with _ | ad
    · exact Src.ofNil w Try.underlying31 cap
    · exact Src.ofSlice w Try.underlying31 ad 0 cap [] (by simp) (by simp) (by simp)
  · have h0 : 0 < ys.length := List.length_pos_iff.2 hne
    obtain ⟨b, o', rv0, rfl, hc0⟩ := h3 0 h0
    have hch : ∀ k, ∃ rv, k < ys.length → w.cell? ⟨b, o' + k * 3 + 2, none⟩ = some rv ∧ Ints u rv (peAt ys k).vals := fun k => by
      by_cases hk : k < ys.length
      · obtain ⟨b', o'', rv, e, _, _, hc, hi⟩ := h3 k hk
        simp only [Option.some.injEq, Addr.mk.injEq, and_true] at e
        obtain ⟨rfl, rfl⟩ := e
        exact ⟨rv, fun _ => ⟨hu.cell hc, hi⟩⟩
      · exact ⟨.int .i64 0, fun h => absurd h hk⟩
    obtain ⟨f, hf⟩ := Classical.axiomOfChoice hch
    obtain ⟨r2, hr2⟩ : ∃ r2, (List.range ys.length).map f = r2 := ⟨_, rfl⟩
    have hr2l : r2.length = ys.length := by rw [← hr2]; simp
    have hr2a : ∀ k, k < ys.length → rvAt r2 k = f k := fun k hk => by rw [← hr2]; simp [rvAt, List.getD, hk]
    have HN : ∀ j y, ((List.range (ys.length * 3)).map (peCell r2 ys))[j]? = some y → w.cell? ((⟨b, o', none⟩ : Addr).add j) = some y := fun j y hj => by
      have hjl : j < ys.length * 3 := by have := (List.getElem?_eq_some_iff.1 hj).1; simpa using this
      have hy9 : y = peCell r2 ys j := by
        have h5 : ((List.range (ys.length * 3)).map (peCell r2 ys))[j]? = some (peCell r2 ys j) := by simp [hjl]
        rw [h5] at hj; exact (Option.some.inj hj).symm
      subst hy9
      have hw : w.cell? ⟨b, o' + j, none⟩ = some (peCell r2 ys j) := by
        have hk : j / 3 < ys.length := by omega
        obtain ⟨b', o'', rv, e, c0, c1, _⟩ := h3 (j / 3) hk
        simp only [Option.some.injEq, Addr.mk.injEq, and_true] at e
        obtain ⟨rfl, rfl⟩ := e
        have c2 := (hf (j / 3) hk).1
        rw [← hr2a _ hk] at c2
        have hm : j % 3 = 0 ∨ j % 3 = 1 ∨ j % 3 = 2 := by omega
        rcases hm with hm | hm | hm
        · have e1 : j = j / 3 * 3 := by omega
          have e2 : o' + j = o' + j / 3 * 3 := by omega
          rw [e2, hu.cell c0]; conv => rhs; rw [e1]
          rw [peCell0]
        · have e1 : j = j / 3 * 3 + 1 := by omega
          have e2 : o' + j = o' + j / 3 * 3 + 1 := by omega
          rw [e2, hu.cell c1]; conv => rhs; rw [e1]
          rw [peCell1]
        · have e1 : j = j / 3 * 3 + 2 := by omega
          have e2 : o' + j = o' + j / 3 * 3 + 2 := by omega
          rw [e2, c2]; conv => rhs; rw [e1]
          rw [peCell2]
      by_cases ej : j = 0
      · subst ej; simpa [Addr.add] using hw
      · simpa [Addr.add, ej] using hw
    have hone : ∀ y ∈ (List.range (ys.length * 3)).map (peCell r2 ys), y.oneCell' = true := fun y hy9 => by
      obtain ⟨j, hj, rfl⟩ := List.mem_map.1 hy9
      have hj' : j < ys.length * 3 := by simpa using hj
      have hk : j / 3 < ys.length := by omega
      unfold peCell
      split
      · rfl
      · split
        · rfl
        · rw [hr2a _ hk]
          obtain ⟨a9, c9, e9, _⟩ := (hf (j / 3) hk).2
          rw [e9]; rfl
    refine wpList_append_lies w hgd s x 31 ho lo 46 i _ 3 40 Try.underlying31 hi hz0 hz1 hz2 rfl (by decide) _ xs.length _ hs hown.own ⟨b, o', none⟩ ys.length cap _ hx (by simp) HN hone h0 (by simp [maxLen]; omega) (by omega) hlo w.heap.size rfl ?_
    intro g cp w' hown' hgrow _ _
    refine h _ (rvs ++ r2) w' ⟨?_, fun k hk => ?_, by simp [hown.len, hr2l]⟩ hgrow
    · rw [List.length_append, peCell_app hown.len]; exact hown'
    · by_cases hkx : k < xs.length
      · rw [peAt_left hkx, rvAt_append_left (by rw [hown.len]; exact hkx)]
        exact hown.row k hkx
      · obtain ⟨j, rfl⟩ : ∃ j, k = xs.length + j := ⟨k - xs.length, by omega⟩
        have hj : j < ys.length := by simp at hk; omega
        have e3 : rvAt (rvs ++ r2) (xs.length + j) = rvAt r2 j := by rw [← hown.len]; exact rvAt_right _ _ _
        rw [peAt_right, e3, hr2a _ hj]
        exact (hf j hj).2
theorem ret_bools {a a' b b' : Bool} (h : a = a') (k : b = b') : Ending.returned (.tuple #[.bool a, .bool b]) = .returned (.tuple #[.bool a', .bool b']) := by rw [h, k]
end Go.Proofs.Ytedkhopclgjicaa
