/- The least plan, whole. -/
import Derived.Test.YtodnkahnbidgaaaLib
import Derived.ProofKit
import Derived.Deep.Slices
import Derived.Deep.Matrix
import Derived.Lib.SmallJoins
import Derived.Shelf.SlGeneric
import Derived.Shelf.SlLaysF0
import Derived.Ground.SlsfProg
import Derived.Test.YtodnkahnbidgaaaProg
import Derived.Test.YtodnkahnbidgaaaCell
import Derived.BigQuiet
import Derived.Shelf.Abstract
import Derived.Test.YtodnkahnbidgaaaApp
import Derived.Test.YtodnkahnbidgaaaBase
import Derived.Test.YtodnkahnbidgaaaGdTop
import Derived.Deep.RegionHeld3
import Derived.Sort.Grow
import Derived.StillTailTactics
import Derived.Shelf.SlSortCmp.WholeK
set_option linter.unusedVariables false
namespace Go.Proofs.Ytodnkahnbidgaaa
open Go.ChangeShapes Go.WideShapes Go.ChangeAt Go.RowKit Go.Deep Go.Joins

theorem spot_none {w : World} {a : Addr} {i : Nat} {v : Value} (h : w.cell? (a.add i) = some v) : a.add i = ⟨a.block, a.off + i, none⟩ := by
  obtain ⟨b, o, s⟩ := a
  unfold Addr.add at *
  by_cases e : i = 0
  · subst e
    simp only [if_true, Nat.add_zero] at *
    cases s with
    | none => rfl
    | some s => exfalso; unfold World.cell? at h; simp at h; split at h <;> simp_all
  · simp [e]
theorem spot_none0 {w : World} {a : Addr} {v : Value} (h : w.cell? (a.add 0) = some v) : a = ⟨a.block, a.off, none⟩ := by
  have := spot_none h
  simpa [Addr.add] using this

theorem wf_i64 {n : Int} (h : (Lit.int .i64 n).wf = true) : -9223372036854775808 ≤ n ∧ n ≤ 9223372036854775807 := by
  simpa [Lit.wf, IntKind.min, IntKind.max, IntKind.signed, IntKind.bits] using h

section
variable {H : Type} {enc : TypeId × Value → H} {P : Program} {w : World} {base : Nat} {held : Bool}

theorem ints_read {t e : TypeId} {fuel : Nat} {c : Value} {x : DataW H × List MemPlace} (ht : P.underlying t = some (.slice e)) (he : P.underlying e = some (.int .i64)) (hc : P.cellsOf e = 1)
    (h : DataW.trod enc P w base (fun _ => true) held fuel t [c] = some x) : ∃ xs, Ints w c xs ∧ Wf xs := by
  rcases open_ints ht he hc h with ⟨hcs, _⟩ | ⟨a, len, cap, zs, hcs, _, hl, hm, hz, _, hcell, hwz⟩
  · simp at hcs; subst hcs
    exact ⟨[], Ints.nil w, fun x hx => by simp at hx⟩
  · simp at hcs; subst hcs
    simp only [if_true] at hz
    have hlen : (zs.take len).length = len := by simp; omega
    refine ⟨zs.take len, ⟨some a, cap, by rw [hlen], by omega, by simpa [maxLen] using hm, fun k hk => ?_⟩, fun n hn => wf_i64 (hwz n (List.mem_of_mem_take hn))⟩
    have hk' : k < len := by omega
    have hcl := hcell k (by omega)
    have h0 := hcell 0 (by omega)
    have ha := spot_none0 h0
    refine ⟨a.block, a.off, by rw [← ha], ?_⟩
    rw [← spot_none hcl, hcl]
    simp [ix, List.getD, hk']

theorem grid_read {t e q : TypeId} {fuel : Nat} {c : Value} {x : DataW H × List MemPlace} (ht : P.underlying t = some (.slice e)) (he : P.underlying e = some (.slice q)) (hq : P.underlying q = some (.int .i64))
    (ce : P.cellsOf e = 1) (cq : P.cellsOf q = 1) (h : DataW.trod enc P w base (fun _ => true) held fuel t [c] = some x) : ∃ xss, Grid w c xss ∧ WfG xss := by
  rcases open_slice1 ht ce h with ⟨hcs, _⟩ | ⟨a, len, cap, m, n, V, D, Pl, hcs, hb, hl, hm, hmm, _, hx⟩
  · simp at hcs; subst hcs
    exact ⟨[], Grid.nil w, fun x hx => by simp at hx⟩
  · simp at hcs; subst hcs
    simp only [if_true] at hmm
    subst hmm
    have each : ∀ i, i < len → ∃ xs, Ints w (V i) xs ∧ Wf xs := fun i hi => ints_read he hq cq (hx i (by omega)).2
    obtain ⟨X, hX⟩ := choose_lt each
    have hlen : ((List.range len).map X).length = len := by simp
    have hrow : ∀ k, k < len → rowAt ((List.range len).map X) k = X k := fun k hk => by simp [rowAt, List.getD, hk]
    refine ⟨(List.range len).map X, ⟨some a, m, by rw [hlen], by omega, by simpa [maxLen] using hm, fun k hk => ?_⟩, fun r hr => ?_⟩
    · rw [hlen] at hk
      have hcl := (hx k (by omega)).1
      have h0 := (hx 0 (by omega)).1
      have ha := spot_none0 h0
      refine ⟨a.block, a.off, V k, by rw [← ha], by rw [← spot_none hcl, hcl], ?_⟩
      rw [hrow k hk]; exact (hX k hk).1
    · obtain ⟨k, hk, rfl⟩ := List.mem_map.1 hr
      exact (hX k (by simpa using hk)).2
theorem array1 {α : Type} {cs : Array α} (h : cs.size = 1) : ∃ c0, cs = #[c0] := by
  obtain ⟨l⟩ := cs
  match l, h with
  | [c0], _ => exact ⟨c0, rfl⟩
theorem open_agg1 {r : Reach} {b0 : Nat} {t : TypeId} {f0 : Field} {v : Value} {d : DataW H} {p : List MemPlace} (hs : P.underlying t = some (.struct #[f0])) (hone : oneCellFields P #[f0] = true) (hC : P.cellsOf t = 1)
    (hv : Value.okWide P w r b0 t v) (h : DataW.Trod enc P w base (fun _ => true) held t v d p) :
    ∃ (v0 : Value) (y0 : DataW H × List MemPlace) (n : Nat), v = .agg #[v0] ∧ d = .agg [y0.1] ∧ p = y0.2 ∧
      DataW.trod enc P w base (fun _ => true) held n f0.type [v0] = some y0 := by
  obtain ⟨cs, rfl, hsz⟩ := okWide_struct hs hv
  obtain ⟨c0, rfl⟩ := array1 (hsz.trans hC)
  obtain ⟨fuel, hf⟩ := h
  obtain ⟨y0, n, hx, _, h0⟩ := trod_struct1 hs hf
  obtain ⟨o0, k0⟩ := hone_of hone 0 f0 rfl
  simp only [Prod.mk.injEq] at hx
  exact ⟨c0, y0, n, rfl, hx.1, hx.2, by simpa [Value.cells, o0, k0] using h0⟩
end
end Go.Proofs.Ytodnkahnbidgaaa
namespace Go.Proofs
open Go.Shelf
def Try.sortF_ren : Go.Shelf.Ren := ⟨fun | 6 => 59 | 15 => 90 | 14 => 89 | 28 => 109 | 29 => 110 | 20 => 101 | 21 => 102 | 22 => 103 | 23 => 104 | 24 => 105 | 25 => 106 | 26 => 107 | 27 => 108 | 46 => 115 | 47 => 116 | 48 => 117 | 49 => 118 | 50 => 119 | 57 => 122 | n => n, fun | 22 => 65 | 24 => 68 | 25 => 73 | 3 => 3 | 39 => 58 | 0 => 0 | 53 => 106 | 55 => 108 | 4 => 4 | 46 => 99 | 45 => 98 | 50 => 103 | 5 => 5 | 9 => 9 | 66 => 111 | 70 => 115 | 76 => 118 | 77 => 47 | n => n, fun | n => n⟩
theorem Try.sortF : Go.Proofs.SlLaysF0.n6 Try.prog Try.sortF_ren := {
  mixed := by kernel_rfl
  f6 := ⟨Try.f59.name, by decide, Try.func59.trans (congrArg some (by kernel_rfl))⟩
  f14 := ⟨Try.f89.name, by decide, Try.func89.trans (congrArg some (by kernel_rfl))⟩
  f15 := Try.func90.trans (congrArg some (by kernel_rfl))
  f20 := ⟨Try.f101.name, by decide, Try.func101.trans (congrArg some (by kernel_rfl))⟩
  f21 := ⟨Try.f102.name, by decide, Try.func102.trans (congrArg some (by kernel_rfl))⟩
  f22 := ⟨Try.f103.name, by decide, Try.func103.trans (congrArg some (by kernel_rfl))⟩
  f23 := ⟨Try.f104.name, by decide, Try.func104.trans (congrArg some (by kernel_rfl))⟩
  f24 := ⟨Try.f105.name, by decide, Try.func105.trans (congrArg some (by kernel_rfl))⟩
  f25 := ⟨Try.f106.name, by decide, Try.func106.trans (congrArg some (by kernel_rfl))⟩
  f26 := ⟨Try.f107.name, by decide, Try.func107.trans (congrArg some (by kernel_rfl))⟩
  f27 := ⟨Try.f108.name, by decide, Try.func108.trans (congrArg some (by kernel_rfl))⟩
  f28 := Try.func109.trans (congrArg some (by kernel_rfl))
  f29 := Try.func110.trans (congrArg some (by kernel_rfl))
  f46 := ⟨Try.f115.name, by decide, Try.func115.trans (congrArg some (by kernel_rfl))⟩
  f47 := Try.func116.trans (congrArg some (by kernel_rfl))
  f48 := Try.func117.trans (congrArg some (by kernel_rfl))
  f49 := ⟨Try.f118.name, by decide, Try.func118.trans (congrArg some (by kernel_rfl))⟩
  f50 := ⟨Try.f119.name, by decide, Try.func119.trans (congrArg some (by kernel_rfl))⟩
  f57 := ⟨Try.f122.name, by decide, Try.func122.trans (congrArg some (by kernel_rfl))⟩
  t0 := Try.underlying0
  a0 := Try.isAgg0
  z0 := Try.sizeOf0
  v0 := Try.zeroValue0
  t3 := Try.underlying3
  a3 := Try.isAgg3
  z3 := Try.sizeOf3
  v3 := Try.zeroValue3
  t4 := Try.underlying4
  a4 := Try.isAgg4
  z4 := Try.sizeOf4
  v4 := Try.zeroValue4
  t5 := Try.underlying5
  a5 := Try.isAgg5
  z5 := Try.sizeOf5
  v5 := Try.zeroValue5
  t9 := Try.underlying9
  a9 := Try.isAgg9
  z9 := Try.sizeOf9
  v9 := Try.zeroValue9
  t22 := Try.underlying65
  a22 := Try.isAgg65
  z22 := Try.sizeOf65
  v22 := Try.zeroValue65
  t25 := Try.underlying73
  a25 := Try.isAgg73
  z25 := Try.sizeOf73
  v25 := Try.zeroValue73
  t39 := Try.underlying58
  a39 := Try.isAgg58
  z39 := Try.sizeOf58
  v39 := Try.zeroValue58
  t45 := Try.underlying98
  a45 := Try.isAgg98
  z45 := Try.sizeOf98
  v45 := Try.zeroValue98
  t46 := Try.underlying99
  a46 := Try.isAgg99
  z46 := Try.sizeOf99
  v46 := Try.zeroValue99
  t50 := Try.underlying103
  a50 := Try.isAgg103
  z50 := Try.sizeOf103
  v50 := Try.zeroValue103
  t53 := Try.underlying106
  a53 := Try.isAgg106
  z53 := Try.sizeOf106
  v53 := Try.zeroValue106
  t55 := Try.underlying108
  a55 := Try.isAgg108
  z55 := Try.sizeOf108
  v55 := Try.zeroValue108
  t66 := Try.underlying111
  a66 := Try.isAgg111
  z66 := Try.sizeOf111
  v66 := Try.zeroValue111
  t70 := Try.underlying115
  a70 := Try.isAgg115
  z70 := Try.sizeOf115
  v70 := Try.zeroValue115
  t76 := Try.underlying118
  a76 := Try.isAgg118
  z76 := Try.sizeOf118
  v76 := Try.zeroValue118
  t77 := Try.underlying47
  a77 := Try.isAgg47
  z77 := Try.sizeOf47
  v77 := Try.zeroValue47 }
end Go.Proofs
namespace Go.Proofs.Ytodnkahnbidgaaa

def cmpI (a b : Int) : Int := if a < b then -1 else if b < a then 1 else 0
theorem cmpI_cases (a b : Int) : (a < b ∧ cmpI a b = -1) ∨ (b < a ∧ cmpI a b = 1) ∨ (a = b ∧ cmpI a b = 0) := by
  unfold cmpI
  by_cases h1 : a < b
  · exact .inl ⟨h1, by rw [if_pos h1]⟩
  · by_cases h2 : b < a
    · exact .inr (.inl ⟨h2, by rw [if_neg h1, if_pos h2]⟩)
    · exact .inr (.inr ⟨by omega, by rw [if_neg h1, if_neg h2]⟩)
theorem cmpI_zero {a b : Int} : cmpI a b = 0 ↔ a = b := by
  rcases cmpI_cases a b with ⟨h, e⟩ | ⟨h, e⟩ | ⟨h, e⟩ <;> rw [e] <;> constructor <;> intro h2 <;> omega
theorem cmpI_self (a : Int) : cmpI a a = 0 := cmpI_zero.2 rfl
/-- Go's slices.Compare -/
def cmpL : List Int → List Int → Int
  | [], [] => 0
  | [], _ :: _ => -1
  | _ :: _, [] => 1
  | a :: s, b :: t => if cmpI a b = 0 then cmpL s t else cmpI a b
theorem cmpL_self : ∀ a : List Int, cmpL a a = 0
  | [] => rfl
  | a :: s => by simp only [cmpL, cmpI_self, if_true]; exact cmpL_self s
theorem cmpL_eq : ∀ {a b : List Int}, cmpL a b = 0 → a = b
  | [], [], _ => rfl
  | [], _ :: _, h => by simp [cmpL] at h
  | _ :: _, [], h => by simp [cmpL] at h
  | a :: s, b :: t, h => by
    simp only [cmpL] at h
    by_cases e : cmpI a b = 0
    · rw [if_pos e] at h
      rw [cmpI_zero.1 e, cmpL_eq h]
    · rw [if_neg e] at h; exact absurd h e
theorem cmpI_neg (a b : Int) : cmpI b a = - cmpI a b := by
  rcases cmpI_cases a b with ⟨h, e⟩ | ⟨h, e⟩ | ⟨h, e⟩ <;> rcases cmpI_cases b a with ⟨h', e'⟩ | ⟨h', e'⟩ | ⟨h', e'⟩ <;> omega
theorem cmpL_neg : ∀ (a b : List Int), cmpL b a = - cmpL a b
  | [], [] => rfl
  | [], _ :: _ => rfl
  | _ :: _, [] => rfl
  | a :: s, b :: t => by
    simp only [cmpL]
    rw [cmpI_neg a b]
    by_cases e : cmpI a b = 0
    · rw [if_pos e, if_pos (by omega), cmpL_neg s t]
    · rw [if_neg e, if_neg (by omega)]
theorem cmpL_trans : ∀ {a b c : List Int}, cmpL a b < 0 → cmpL b c < 0 → cmpL a c < 0
  | [], [], _, h, _ => by simp [cmpL] at h
  | [], _ :: _, [], _, h => by simp [cmpL] at h
  | [], _ :: _, _ :: _, _, _ => by simp [cmpL]
  | _ :: _, [], _, h, _ => by simp [cmpL] at h
  | _ :: _, _ :: _, [], _, h => by simp [cmpL] at h
  | a :: s, b :: t, c :: u, h1, h2 => by
    simp only [cmpL] at h1 h2 ⊢
    rcases cmpI_cases a b with ⟨l1, e1⟩ | ⟨l1, e1⟩ | ⟨l1, e1⟩ <;> rcases cmpI_cases b c with ⟨l2, e2⟩ | ⟨l2, e2⟩ | ⟨l2, e2⟩ <;> rcases cmpI_cases a c with ⟨l3, e3⟩ | ⟨l3, e3⟩ | ⟨l3, e3⟩ <;> rw [e1] at h1 <;> rw [e2] at h2 <;> rw [e3] <;> simp at h1 h2 ⊢
    all_goals (first | omega | exact cmpL_trans h1 h2)
/-- Go's slices.CompareFunc with slices.Compare -/
def cmpLL : List (List Int) → List (List Int) → Int
  | [], [] => 0
  | [], _ :: _ => -1
  | _ :: _, [] => 1
  | a :: s, b :: t => if cmpL a b = 0 then cmpLL s t else cmpL a b
theorem cmpLL_eq : ∀ {a b : List (List Int)}, cmpLL a b = 0 → a = b
  | [], [], _ => rfl
  | [], _ :: _, h => by simp [cmpLL] at h
  | _ :: _, [], h => by simp [cmpLL] at h
  | a :: s, b :: t, h => by
    simp only [cmpLL] at h
    by_cases e : cmpL a b = 0
    · rw [if_pos e] at h
      rw [cmpL_eq e, cmpLL_eq h]
    · rw [if_neg e] at h; exact absurd h e
theorem two {r : List Int} (h : r.length = 2) : ∃ a b, r = [a, b] := by
  match r, h with
  | [a, b], _ => exact ⟨a, b, rfl⟩
theorem cmpLL_flat : ∀ {A B : List (List Int)}, (∀ r ∈ A, r.length = 2) → (∀ r ∈ B, r.length = 2) → cmpLL A B = cmpL A.flatten B.flatten
  | [], [], _, _ => rfl
  | [], b :: t, _, hb => by
    obtain ⟨p, q, e⟩ := two (hb b (by simp))
    subst e
    simp [cmpLL, cmpL]
  | a :: s, [], ha, _ => by
    obtain ⟨p, q, e⟩ := two (ha a (by simp))
    subst e
    simp [cmpLL, cmpL]
  | a :: s, b :: t, ha, hb => by
    obtain ⟨p, q, e⟩ := two (ha a (by simp))
    obtain ⟨p', q', e'⟩ := two (hb b (by simp))
    subst e e'
    have ih := cmpLL_flat (A := s) (B := t) (fun r hr => ha r (by simp [hr])) (fun r hr => hb r (by simp [hr]))
    simp only [cmpLL, List.flatten_cons, List.cons_append, List.nil_append]
    rw [ih]
    simp only [cmpL]
    by_cases e1 : cmpI p p' = 0
    · by_cases e2 : cmpI q q' = 0
      · simp [e1, e2]
      · simp [e1, e2]
    · simp [e1]
def or3 (a b c : Int) : Int := if a ≠ 0 then a else if b ≠ 0 then b else c
/-- what choices are ordered by -/
def keyL (A : List (List Int)) (v : Int) : List Int := (A.length : Int) :: v :: A.flatten
theorem or3_key {A B : List (List Int)} (va vb : Int) (ha : ∀ r ∈ A, r.length = 2) (hb : ∀ r ∈ B, r.length = 2) : or3 (cmpI A.length B.length) (cmpI va vb) (cmpLL A B) = cmpL (keyL A va) (keyL B vb) := by
  unfold or3 keyL
  simp only [cmpL]
  rw [cmpLL_flat ha hb]
  by_cases e1 : cmpI (A.length : Int) (B.length : Int) = 0
  · by_cases e2 : cmpI va vb = 0
    · simp [e1, e2]
    · simp [e1, e2]
  · simp [e1]
/-- pairs as places in one row -/
def placeR (m : Nat) (r : List Int) : Int := ix r 0 * m + ix r 1
theorem cmpI_place {m : Nat} {p q p' q' : Int} (hq : 0 ≤ q ∧ q < m) (hq' : 0 ≤ q' ∧ q' < m) : cmpI (p * m + q) (p' * m + q') = if cmpI p p' = 0 then cmpI q q' else cmpI p p' := by
  rcases cmpI_cases p p' with ⟨l, e⟩ | ⟨l, e⟩ | ⟨l, e⟩
  · rw [e, if_neg (by omega)]
    have h1 : (p + 1) * (m : Int) ≤ p' * m := Int.mul_le_mul_of_nonneg_right (by omega) (by omega)
    rw [Int.add_mul, Int.one_mul] at h1
    rcases cmpI_cases (p * m + q) (p' * m + q') with ⟨l2, e2⟩ | ⟨l2, e2⟩ | ⟨l2, e2⟩
    · exact e2
    · omega
    · omega
  · rw [e, if_neg (by omega)]
    have h1 : (p' + 1) * (m : Int) ≤ p * m := Int.mul_le_mul_of_nonneg_right (by omega) (by omega)
    rw [Int.add_mul, Int.one_mul] at h1
    rcases cmpI_cases (p * m + q) (p' * m + q') with ⟨l2, e2⟩ | ⟨l2, e2⟩ | ⟨l2, e2⟩
    · omega
    · exact e2
    · omega
  · rw [e, if_pos rfl]
    subst l
    rcases cmpI_cases q q' with ⟨l, e⟩ | ⟨l, e⟩ | ⟨l, e⟩ <;> rcases cmpI_cases (p * m + q) (p * m + q') with ⟨l2, e2⟩ | ⟨l2, e2⟩ | ⟨l2, e2⟩ <;> omega
theorem cmpL_place {m : Nat} : ∀ {A B : List (List Int)}, (∀ r ∈ A, r.length = 2 ∧ 0 ≤ ix r 1 ∧ ix r 1 < m) → (∀ r ∈ B, r.length = 2 ∧ 0 ≤ ix r 1 ∧ ix r 1 < m) → cmpL (A.map (placeR m)) (B.map (placeR m)) = cmpL A.flatten B.flatten
  | [], [], _, _ => rfl
  | [], b :: t, _, hb => by
    obtain ⟨p, q, e⟩ := two (hb b (by simp)).1
    subst e
    simp [cmpL]
  | a :: s, [], ha, _ => by
    obtain ⟨p, q, e⟩ := two (ha a (by simp)).1
    subst e
    simp [cmpL]
  | a :: s, b :: t, ha, hb => by
    obtain ⟨p, q, e⟩ := two (ha a (by simp)).1
    obtain ⟨p', q', e'⟩ := two (hb b (by simp)).1
    have h1 := (ha a (by simp)).2
    have h2 := (hb b (by simp)).2
    subst e e'
    have h1' : 0 ≤ q ∧ q < m := h1
    have h2' : 0 ≤ q' ∧ q' < m := h2
    have ih := cmpL_place (m := m) (A := s) (B := t) (fun r hr => ha r (by simp [hr])) (fun r hr => hb r (by simp [hr]))
    have ea : placeR m [p, q] = p * m + q := rfl
    have eb : placeR m [p', q'] = p' * m + q' := rfl
    simp only [List.map_cons, List.flatten_cons, List.cons_append, List.nil_append, cmpL]
    rw [ea, eb, cmpI_place h1' h2', ih]
    by_cases e1 : cmpI p p' = 0
    · by_cases e2 : cmpI q q' = 0
      · simp [e1, e2]
      · simp [e1, e2]
    · simp [e1]

/-! ### Masks -/
def bitsTo (k : Nat) : Nat → List Nat
  | 0 => []
  | i + 1 => if k.testBit i = true then bitsTo k i ++ [i] else bitsTo k i
theorem bitsTo_mem {k : Nat} : ∀ {n i : Nat}, i ∈ bitsTo k n ↔ i < n ∧ k.testBit i = true := by
  intro n
  induction n with
  | zero => intro i; simp [bitsTo]
  | succ n ih =>
    intro i
    simp only [bitsTo]
    split
    · rename_i h
      rw [List.mem_append, ih, List.mem_singleton]
      constructor
      · rintro (⟨a, b⟩ | rfl)
        · exact ⟨by omega, b⟩
        · exact ⟨by omega, h⟩
      · rintro ⟨a, b⟩
        by_cases e : i = n
        · exact .inr e
        · exact .inl ⟨by omega, b⟩
    · rename_i h
      rw [ih]
      constructor
      · rintro ⟨a, b⟩; exact ⟨by omega, b⟩
      · rintro ⟨a, b⟩
        by_cases e : i = n
        · subst e; exact absurd b h
        · exact ⟨by omega, b⟩
theorem bitsTo_len (k : Nat) : ∀ n, (bitsTo k n).length ≤ n := by
  intro n
  induction n with
  | zero => simp [bitsTo]
  | succ n ih => simp only [bitsTo]; split <;> (try simp) <;> omega
/-- beyond its highest bit a mask has no more -/
theorem bitsTo_more {k n : Nat} (h : k / 2 ^ n = 0) : ∀ m, n ≤ m → bitsTo k m = bitsTo k n := by
  intro m
  induction m with
  | zero => intro hm; have : n = 0 := by omega
            subst this; rfl
  | succ m ih =>
    intro hm
    by_cases e : n = m + 1
    · subst e; rfl
    · simp only [bitsTo]
      have hk : k < 2 ^ n := by
        rcases Nat.lt_or_ge k (2 ^ n) with h2 | h2
        · exact h2
        · have := Nat.div_pos h2 (Nat.two_pow_pos n); omega
      have hb : k.testBit m = false := Nat.testBit_lt_two_pow (Nat.lt_of_lt_of_le hk (Nat.pow_le_pow_right (by omega) (by omega)))
      rw [hb, if_neg (by simp)]
      exact ih (by omega)
theorem bits_inj {k l n : Nat} (hk : k < 2 ^ n) (hl : l < 2 ^ n) (h : ∀ i, i < n → (k.testBit i = true ↔ l.testBit i = true)) : k = l := by
  apply Nat.eq_of_testBit_eq
  intro i
  by_cases hi : i < n
  · have := h i hi
    cases h1 : k.testBit i <;> cases h2 : l.testBit i <;> simp_all
  · rw [Nat.testBit_lt_two_pow (Nat.lt_of_lt_of_le hk (Nat.pow_le_pow_right (by omega) (by omega))), Nat.testBit_lt_two_pow (Nat.lt_of_lt_of_le hl (Nat.pow_le_pow_right (by omega) (by omega)))]
/-- the cells of a mask -/
def cellsM (L : List (List Int)) (k : Nat) : List (List Int) := (bitsTo k L.length).map (rowAt L)
theorem cellsM_len (L : List (List Int)) (k : Nat) : (cellsM L k).length ≤ L.length := by
  unfold cellsM; rw [List.length_map]; exact bitsTo_len _ _
theorem cellsM_sub {L : List (List Int)} {k : Nat} : ∀ r ∈ cellsM L k, r ∈ L := by
  intro r hr
  obtain ⟨i, hi, rfl⟩ := List.mem_map.1 hr
  exact rowAt_mem (bitsTo_mem.1 hi).1
theorem cellsM_inj {L : List (List Int)} (hn : ∀ i j, i < L.length → j < L.length → rowAt L i = rowAt L j → i = j) {k l : Nat} (hk : k < 2 ^ L.length) (hl : l < 2 ^ L.length) (h : cellsM L k = cellsM L l) : k = l := by
  refine bits_inj hk hl (fun i hi => ?_)
  have key : ∀ a b : Nat, cellsM L a = cellsM L b → a.testBit i = true → b.testBit i = true := fun a b hab ha => by
    have h1 : rowAt L i ∈ cellsM L a := List.mem_map.2 ⟨i, bitsTo_mem.2 ⟨hi, ha⟩, rfl⟩
    rw [hab] at h1
    obtain ⟨j, hj, e⟩ := List.mem_map.1 h1
    have h2 := bitsTo_mem.1 hj
    have := hn j i h2.1 hi e
    subst this
    exact h2.2
  exact ⟨key k l h, key l k h.symm⟩
theorem cellsM_all (L : List (List Int)) : ∀ r ∈ L, r ∈ cellsM L (2 ^ L.length - 1) := by
  intro r hr
  obtain ⟨i, hi, rfl⟩ := List.getElem_of_mem hr
  refine List.mem_map.2 ⟨i, bitsTo_mem.2 ⟨hi, ?_⟩, rowAt_eq hi⟩
  rw [Nat.testBit_two_pow_sub_one]
  simp [hi]

/-! ### The least choice -/
/-- a is the least of those below N that are safe -/
def IsLeast (N : Nat) (safe : Nat → Bool) (key : Nat → List Int) (a : Nat) : Prop := a < N ∧ safe a = true ∧ ∀ b, b < N → safe b = true → b = a ∨ cmpL (key a) (key b) < 0
theorem IsLeast.eq {N : Nat} {safe : Nat → Bool} {key : Nat → List Int} {a b : Nat} (h : IsLeast N safe key a) (k : IsLeast N safe key b) : a = b := by
  rcases h.2.2 b k.1 k.2.1 with e | e
  · exact e.symm
  · rcases k.2.2 a h.1 h.2.1 with e2 | e2
    · exact e2
    · rw [cmpL_neg] at e2; omega
open Classical in
noncomputable def leastO (N : Nat) (safe : Nat → Bool) (key : Nat → List Int) : Option Nat := if h : ∃ a, IsLeast N safe key a then some h.choose else none
theorem leastO_some {N : Nat} {safe : Nat → Bool} {key : Nat → List Int} {a : Nat} (h : IsLeast N safe key a) : leastO N safe key = some a := by
  have he : ∃ a, IsLeast N safe key a := ⟨a, h⟩
  unfold leastO
  rw [dif_pos he, he.choose_spec.eq h]
theorem leastO_none {N : Nat} {safe : Nat → Bool} {key : Nat → List Int} (h : ∀ a, a < N → safe a = false) : leastO N safe key = none := by
  unfold leastO
  rw [dif_neg]
  rintro ⟨a, h1, h2, _⟩
  rw [h a h1] at h2; cases h2
theorem leastO_is {N : Nat} {safe : Nat → Bool} {key : Nat → List Int} {a : Nat} (h : leastO N safe key = some a) : IsLeast N safe key a := by
  unfold leastO at h
  split at h
  · rename_i he
    have := he.choose_spec
    simp only [Option.some.injEq] at h
    rw [h] at this
    exact this
  · cases h
end Go.Proofs.Ytodnkahnbidgaaa
namespace Go.Proofs.Ytodnkahnbidgaaa
open Go.RowKit

theorem cmpI_lt {a b : Int} (h : a < b) : cmpI a b = -1 := by unfold cmpI; rw [if_pos h]
theorem cmpI_gt {a b : Int} (h : b < a) : cmpI a b = 1 := by unfold cmpI; rw [if_neg (by omega), if_pos h]
/-- two lists whose first k elements are alike -/
theorem cmpL_drop : ∀ (k : Nat) (a b : List Int), k ≤ a.length → k ≤ b.length → (∀ j, j < k → ix a j = ix b j) → cmpL a b = cmpL (a.drop k) (b.drop k)
  | 0, _, _, _, _, _ => rfl
  | k + 1, [], _, h, _, _ => by simp at h
  | k + 1, _ :: _, [], _, h, _ => by simp at h
  | k + 1, x :: s, y :: t, h1, h2, h => by
    have e : x = y := h 0 (by omega)
    subst e
    simp only [cmpL, cmpI_self, if_true, List.drop_succ_cons]
    exact cmpL_drop k s t (by simpa using h1) (by simpa using h2) (fun j hj => h (j + 1) (by omega))
theorem drop_ix {a : List Int} {k : Nat} (h : k < a.length) : a.drop k = ix a k :: a.drop (k + 1) := by
  rw [ix_eq h]; exact List.drop_eq_getElem_cons h
theorem cmpL_at {a b : List Int} {k : Nat} (ha : k < a.length) (hb : k < b.length) (h : ∀ j, j < k → ix a j = ix b j) (hne : cmpI (ix a k) (ix b k) ≠ 0) : cmpL a b = cmpI (ix a k) (ix b k) := by
  rw [cmpL_drop k a b (by omega) (by omega) h, drop_ix ha, drop_ix hb]
  simp only [cmpL]
  rw [if_neg hne]
theorem cmpL_more {a b : List Int} (ha : b.length < a.length) (h : ∀ j, j < b.length → ix a j = ix b j) : cmpL a b = 1 := by
  rw [cmpL_drop b.length a b (by omega) (Nat.le_refl _) h, drop_ix ha, List.drop_length]
  rfl
theorem cmpL_less {a b : List Int} (ha : a.length < b.length) (h : ∀ j, j < a.length → ix a j = ix b j) : cmpL a b = -1 := by
  rw [cmpL_drop a.length a b (Nat.le_refl _) (by omega) h, drop_ix ha, List.drop_length]
  rfl
theorem cmpL_same {a b : List Int} (ha : a.length = b.length) (h : ∀ j, j < a.length → ix a j = ix b j) : cmpL a b = 0 := by
  rw [cmpL_drop a.length a b (Nat.le_refl _) (by omega) h, List.drop_length, ha, List.drop_length]
  rfl
theorem cmpLL_drop : ∀ (k : Nat) (a b : List (List Int)), k ≤ a.length → k ≤ b.length → (∀ j, j < k → cmpL (rowAt a j) (rowAt b j) = 0) → cmpLL a b = cmpLL (a.drop k) (b.drop k)
  | 0, _, _, _, _, _ => rfl
  | k + 1, [], _, h, _, _ => by simp at h
  | k + 1, _ :: _, [], _, h, _ => by simp at h
  | k + 1, x :: s, y :: t, h1, h2, h => by
    have e : cmpL x y = 0 := h 0 (by omega)
    simp only [cmpLL, e, if_true, List.drop_succ_cons]
    exact cmpLL_drop k s t (by simpa using h1) (by simpa using h2) (fun j hj => h (j + 1) (by omega))
theorem drop_row {a : List (List Int)} {k : Nat} (h : k < a.length) : a.drop k = rowAt a k :: a.drop (k + 1) := by
  rw [rowAt_eq h]; exact List.drop_eq_getElem_cons h
theorem cmpLL_at {a b : List (List Int)} {k : Nat} (ha : k < a.length) (hb : k < b.length) (h : ∀ j, j < k → cmpL (rowAt a j) (rowAt b j) = 0) (hne : cmpL (rowAt a k) (rowAt b k) ≠ 0) : cmpLL a b = cmpL (rowAt a k) (rowAt b k) := by
  rw [cmpLL_drop k a b (by omega) (by omega) h, drop_row ha, drop_row hb]
  simp only [cmpLL]
  rw [if_neg hne]
theorem cmpLL_more {a b : List (List Int)} (ha : b.length < a.length) (h : ∀ j, j < b.length → cmpL (rowAt a j) (rowAt b j) = 0) : cmpLL a b = 1 := by
  rw [cmpLL_drop b.length a b (by omega) (Nat.le_refl _) h, drop_row ha, List.drop_length]
  rfl
theorem cmpLL_less {a b : List (List Int)} (ha : a.length < b.length) (h : ∀ j, j < a.length → cmpL (rowAt a j) (rowAt b j) = 0) : cmpLL a b = -1 := by
  rw [cmpLL_drop a.length a b (Nat.le_refl _) (by omega) h, drop_row ha, List.drop_length]
  rfl
theorem cmpLL_same {a b : List (List Int)} (ha : a.length = b.length) (h : ∀ j, j < a.length → cmpL (rowAt a j) (rowAt b j) = 0) : cmpLL a b = 0 := by
  rw [cmpLL_drop a.length a b (Nat.le_refl _) (by omega) h, List.drop_length, ha, List.drop_length]
  rfl
theorem cmpI_range (a b : Int) : cmpI a b = -1 ∨ cmpI a b = 0 ∨ cmpI a b = 1 := by
  rcases cmpI_cases a b with ⟨_, e⟩ | ⟨_, e⟩ | ⟨_, e⟩
  · exact .inl e
  · exact .inr (.inr e)
  · exact .inr (.inl e)

set_option maxHeartbeats 800000 in
theorem compare_c (a b : Int) (w : World) : Calls Try.prog 62 #[.int .i64 a, .int .i64 b] w fun e w' => e = .returned (.int .i64 (cmpI a b)) ∧ w' = w := by
  rcases cmpI_cases a b with ⟨h, e⟩ | ⟨h, e⟩ | ⟨h, e⟩
  · have HE := Lib.hid e; clear e
    go_enter Try.func62, Try.ntmps62
    go_wp2
    go_ret
    exact ⟨ret_int HE.out.symm, rfl⟩
  · have h2 : ¬ a < b := by omega
    have HE := Lib.hid e; clear e
    go_enter Try.func62, Try.ntmps62
    go_wp2
    go_ret
    exact ⟨ret_int HE.out.symm, rfl⟩
  · have h2 : ¬ a < b := by omega
    have h3 : ¬ b < a := by omega
    have HE := Lib.hid e; clear e h
    go_enter Try.func62, Try.ntmps62
    go_wp2
    go_ret
    exact ⟨ret_int HE.out.symm, rfl⟩
set_option maxHeartbeats 800000 in
theorem or3_c (B : Nat) (a b c : Int) (w : World) (h : Box w B 3 #[.int .i64 a, .int .i64 b, .int .i64 c]) : Calls Try.prog 61 #[.slice (some ⟨B, 0, none⟩) 3 3] w fun e w' => e = .returned (.int .i64 (or3 a b c)) ∧ w' = w := by
  have k0 := h.cell 0 (by simp)
  have k1 := h.cell 1 (by simp)
  have k2 := h.cell 2 (by simp)
  clear h
  by_cases ha : a = 0
  · by_cases hb : b = 0
    · have HE : Hid (or3 a b c = c) := Lib.hid (by simp [or3, ha, hb])
      have q1 : (a != 0) = false := by simp [ha]
      have q2 : (b != 0) = false := by simp [hb]
      clear ha hb
      by_cases hc : c = 0
      · have q3 : (c != 0) = false := by simp [hc]
        have HC := Lib.hid hc; clear hc
        go_enter Try.func61, Try.ntmps61
        go_wp2
        go_loop [8] (fun i => ∃ k : Nat, k ≤ 3 ∧ i = .int .i64 k) (fun i => 3 - (intOf i).toNat)
        case atStart => exact ⟨0, by omega, rfl⟩
        case round =>
          obtain ⟨k, hk, rfl⟩ := hrel
          have h4 : k = 0 ∨ k = 1 ∨ k = 2 ∨ k = 3 := by omega
          rcases h4 with rfl | rfl | rfl | rfl
          · go_wp2
            go_round
            case rel => exact ⟨1, by omega, rfl⟩
            case measure => simp [intOf]
          · go_wp2
            go_round
            case rel => exact ⟨2, by omega, rfl⟩
            case measure => simp [intOf]
          · go_wp2
            go_round
            case rel => exact ⟨3, by omega, rfl⟩
            case measure => simp [intOf]
          · go_wp2
            go_ret
            exact ⟨ret_int (by rw [HE.out, HC.out]), rfl⟩
      · have q3 : (c != 0) = true := by simp [hc]
        clear hc
        go_enter Try.func61, Try.ntmps61
        go_wp2
        go_loop [8] (fun i => ∃ k : Nat, k ≤ 2 ∧ i = .int .i64 k) (fun i => 3 - (intOf i).toNat)
        case atStart => exact ⟨0, by omega, rfl⟩
        case round =>
          obtain ⟨k, hk, rfl⟩ := hrel
          have h4 : k = 0 ∨ k = 1 ∨ k = 2 := by omega
          rcases h4 with rfl | rfl | rfl
          · go_wp2
            go_round
            case rel => exact ⟨1, by omega, rfl⟩
            case measure => simp [intOf]
          · go_wp2
            go_round
            case rel => exact ⟨2, by omega, rfl⟩
            case measure => simp [intOf]
          · go_wp2
            go_ret
            exact ⟨ret_int HE.out.symm, rfl⟩
    · have HE : Hid (or3 a b c = b) := Lib.hid (by simp [or3, ha, hb])
      have q1 : (a != 0) = false := by simp [ha]
      have q2 : (b != 0) = true := by simp [hb]
      clear ha hb
      go_enter Try.func61, Try.ntmps61
      go_wp2
      go_loop [8] (fun i => ∃ k : Nat, k ≤ 1 ∧ i = .int .i64 k) (fun i => 3 - (intOf i).toNat)
      case atStart => exact ⟨0, by omega, rfl⟩
      case round =>
        obtain ⟨k, hk, rfl⟩ := hrel
        have h4 : k = 0 ∨ k = 1 := by omega
        rcases h4 with rfl | rfl
        · go_wp2
          go_round
          case rel => exact ⟨1, by omega, rfl⟩
          case measure => simp [intOf]
        · go_wp2
          go_ret
          exact ⟨ret_int HE.out.symm, rfl⟩
  · have HE : Hid (or3 a b c = a) := Lib.hid (by simp [or3, ha])
    have q1 : (a != 0) = true := by simp [ha]
    clear ha
    go_enter Try.func61, Try.ntmps61
    go_wp2
    go_loop [8] (fun i => ∃ k : Nat, k ≤ 0 ∧ i = .int .i64 k) (fun i => 3 - (intOf i).toNat)
    case atStart => exact ⟨0, by omega, rfl⟩
    case round =>
      obtain ⟨k, hk, rfl⟩ := hrel
      have h4 : k = 0 := by omega
      subst h4
      go_wp2
      go_ret
      exact ⟨ret_int HE.out.symm, rfl⟩
set_option maxHeartbeats 1600000 in
theorem compareL_c (v1 v2 : Value) (xs ys : List Int) (w : World) (h1 : Ints w v1 xs) (h2 : Ints w v2 ys) : Calls Try.prog 64 #[v1, v2] w fun e w' => e = .returned (.int .i64 (cmpL xs ys)) ∧ w' = w := by
  obtain ⟨a1, c1, rfl, p1, q1, g1⟩ := h1
  obtain ⟨a2, c2, rfl, p2, q2, g2⟩ := h2
  have G1 := Lib.hid g1; clear g1
  have G2 := Lib.hid g2; clear g2
  obtain ⟨n, hn⟩ : ∃ n, xs.length = n := ⟨_, rfl⟩
  obtain ⟨m, hm⟩ : ∃ n, ys.length = n := ⟨_, rfl⟩
  rw [hn] at p1 ⊢
  rw [hm] at p2 ⊢
  have HN := Lib.hid hn; clear hn
  have HM := Lib.hid hm; clear hm
  go_enter Try.func64, Try.ntmps64
  go_wp2
  go_loop [11] (fun i => ∃ k : Nat, k ≤ n ∧ k ≤ m ∧ i = .int .i64 k ∧ ∀ j, j < k → ix xs j = ix ys j) (fun i => n - (intOf i).toNat)
  case atStart => exact ⟨0, Nat.zero_le _, Nat.zero_le _, rfl, fun j hj => by omega⟩
  case round =>
    obtain ⟨k, hk, hk2, rfl, hj⟩ := hrel
    have HJ := Lib.hid hj; clear hj
    by_cases hlt : k < n
    · obtain ⟨b1, o1, rfl, hc1⟩ := G1.out k (by rw [HN.out]; exact hlt)
      by_cases hlt2 : k < m
      · obtain ⟨b2, o2, rfl, hc2⟩ := G2.out k (by rw [HM.out]; exact hlt2)
        have HAT := Lib.hid (cmpL_at (a := xs) (b := ys) (k := k) (by rw [HN.out]; exact hlt) (by rw [HM.out]; exact hlt2) HJ.out)
        have HEQ : Hid (cmpI (ix xs k) (ix ys k) = 0 → ix xs k = ix ys k) := Lib.hid cmpI_zero.1
        obtain ⟨C, hC⟩ : ∃ C, cmpI (ix xs k) (ix ys k) = C := ⟨_, rfl⟩
        have HCC := Lib.hid hC
        rw [hC] at HAT HEQ
        clear hC
        by_cases hz : C = 0
        · have q3 : (C != 0) = false := by simp [hz]
          have HZ := Lib.hid hz; clear hz
          go_wp2_with fail
          refine (compare_c _ _ _).mono ?_
          rw [HCC.out]
          rintro e w1 ⟨rfl, hw⟩
          rw [hw]
          clear hw
          go_wp2
          go_round
          case rel => exact ⟨k + 1, by omega, by omega, by go_num, fun j hj => by
            by_cases e : j = k
            · subst e; exact HEQ.out HZ.out
            · exact HJ.out j (by omega)⟩
          case measure => simp [intOf]; omega
        · have q3 : (C != 0) = true := by simp [hz]
          have HZ := Lib.hid hz; clear hz
          go_wp2_with fail
          refine (compare_c _ _ _).mono ?_
          rw [HCC.out]
          rintro e w1 ⟨rfl, hw⟩
          rw [hw]
          clear hw
          go_wp2
          go_ret
          exact ⟨ret_int (HAT.out HZ.out).symm, rfl⟩
      · have HKM : Hid (k = m) := Lib.hid (by omega)
        go_wp2
        go_ret
        exact ⟨ret_int (cmpL_more (by rw [HN.out, HM.out]; omega) (fun j hj => HJ.out j (by rw [HM.out] at hj; rw [HKM.out]; exact hj))).symm, rfl⟩
    · have HKN : Hid (k = n) := Lib.hid (by omega)
      by_cases hlt2 : n < m
      · go_wp2
        go_ret
        exact ⟨ret_int (cmpL_less (by rw [HN.out, HM.out]; exact hlt2) (fun j hj => HJ.out j (by rw [HN.out] at hj; rw [HKN.out]; exact hj))).symm, rfl⟩
      · have HNM : Hid (n = m) := Lib.hid (by omega)
        go_wp2
        go_ret
        exact ⟨ret_int (cmpL_same (by rw [HN.out, HM.out]; exact HNM.out) (fun j hj => HJ.out j (by rw [HN.out] at hj; rw [HKN.out]; exact hj))).symm, rfl⟩
set_option maxHeartbeats 1600000 in
theorem compareLL_c (v1 v2 : Value) (xss yss : List (List Int)) (w : World) (h1 : Grid w v1 xss) (h2 : Grid w v2 yss) : Calls Try.prog 63 #[v1, v2, .func (.func 64) #[] #[]] w fun e w' => e = .returned (.int .i64 (cmpLL xss yss)) ∧ w' = w := by
  obtain ⟨a1, c1, rfl, p1, q1, g1⟩ := h1
  obtain ⟨a2, c2, rfl, p2, q2, g2⟩ := h2
  have G1 := Lib.hid g1; clear g1
  have G2 := Lib.hid g2; clear g2
  obtain ⟨n, hn⟩ : ∃ n, xss.length = n := ⟨_, rfl⟩
  obtain ⟨m, hm⟩ : ∃ n, yss.length = n := ⟨_, rfl⟩
  rw [hn] at p1 ⊢
  rw [hm] at p2 ⊢
  have HN := Lib.hid hn; clear hn
  have HM := Lib.hid hm; clear hm
  go_enter Try.func63, Try.ntmps63
  go_wp2
  go_loop [13] (fun i => ∃ k : Nat, k ≤ n ∧ k ≤ m ∧ i = .int .i64 k ∧ ∀ j, j < k → cmpL (rowAt xss j) (rowAt yss j) = 0) (fun i => n - (intOf i).toNat)
  case atStart => exact ⟨0, Nat.zero_le _, Nat.zero_le _, rfl, fun j hj => by omega⟩
  case round =>
    obtain ⟨k, hk, hk2, rfl, hj⟩ := hrel
    have HJ := Lib.hid hj; clear hj
    by_cases hlt : k < n
    · obtain ⟨b1, o1, ar1, cr1, rfl, hc1, r1, s1, t1⟩ := G1.out.at_ (k := k) (by rw [HN.out]; exact hlt)
      have I1 : Hid (Ints w (.slice ar1 (rowAt xss k).length cr1) (rowAt xss k)) := Lib.hid ⟨ar1, cr1, rfl, r1, s1, t1⟩
      clear t1
      by_cases hlt2 : k < m
      · obtain ⟨b2, o2, ar2, cr2, rfl, hc2, r2, s2, t2⟩ := G2.out.at_ (k := k) (by rw [HM.out]; exact hlt2)
        have I2 : Hid (Ints w (.slice ar2 (rowAt yss k).length cr2) (rowAt yss k)) := Lib.hid ⟨ar2, cr2, rfl, r2, s2, t2⟩
        clear t2
        have HAT := Lib.hid (cmpLL_at (a := xss) (b := yss) (k := k) (by rw [HN.out]; exact hlt) (by rw [HM.out]; exact hlt2) HJ.out)
        obtain ⟨C, hC⟩ : ∃ C, cmpL (rowAt xss k) (rowAt yss k) = C := ⟨_, rfl⟩
        have HCC := Lib.hid hC
        rw [hC] at HAT
        clear hC
        by_cases hz : C = 0
        · have q3 : (C != 0) = false := by simp [hz]
          have HZ := Lib.hid hz; clear hz
          go_wp2_with fail
          refine (compareL_c _ _ _ _ _ I1.out I2.out).mono ?_
          rw [HCC.out]
          rintro e w1 ⟨rfl, hw⟩
          rw [hw]
          clear hw
          go_wp2
          go_round
          case rel => exact ⟨k + 1, by omega, by omega, by go_num, fun j hj => by
            by_cases e : j = k
            · subst e; rw [HCC.out]; exact HZ.out
            · exact HJ.out j (by omega)⟩
          case measure => simp [intOf]; omega
        · have q3 : (C != 0) = true := by simp [hz]
          have HZ := Lib.hid hz; clear hz
          go_wp2_with fail
          refine (compareL_c _ _ _ _ _ I1.out I2.out).mono ?_
          rw [HCC.out]
          rintro e w1 ⟨rfl, hw⟩
          rw [hw]
          clear hw
          go_wp2
          go_ret
          exact ⟨ret_int (HAT.out HZ.out).symm, rfl⟩
      · have HKM : Hid (k = m) := Lib.hid (by omega)
        go_wp2
        go_ret
        exact ⟨ret_int (cmpLL_more (by rw [HN.out, HM.out]; omega) (fun j hj => HJ.out j (by rw [HM.out] at hj; rw [HKM.out]; exact hj))).symm, rfl⟩
    · have HKN : Hid (k = n) := Lib.hid (by omega)
      by_cases hlt2 : n < m
      · go_wp2
        go_ret
        exact ⟨ret_int (cmpLL_less (by rw [HN.out, HM.out]; exact hlt2) (fun j hj => HJ.out j (by rw [HN.out] at hj; rw [HKN.out]; exact hj))).symm, rfl⟩
      · have HNM : Hid (n = m) := Lib.hid (by omega)
        go_wp2
        go_ret
        exact ⟨ret_int (cmpLL_same (by rw [HN.out, HM.out]; exact HNM.out) (fun j hj => HJ.out j (by rw [HN.out] at hj; rw [HKN.out]; exact hj))).symm, rfl⟩
end Go.Proofs.Ytodnkahnbidgaaa
namespace Go.Proofs.Ytodnkahnbidgaaa
open Go.RowKit

theorem bv_nat {a : Int} (ha : 0 ≤ a ∧ a ≤ 4611686018427387904) : (BitVec.ofInt 64 a).toNat = a.toNat := by
  rw [BitVec.toNat_ofInt]
  congr 1
  exact Int.emod_eq_of_lt ha.1 (by simp; omega)
theorem bits_odd {a : Int} (ha : 0 ≤ a ∧ a ≤ 4611686018427387904) : bits .and .i64 a 1 = a % 2 := by
  show IntKind.i64.wrap ((BitVec.ofInt 64 a &&& BitVec.ofInt 64 1).toNat : Int) = _
  rw [BitVec.toNat_and, bv_nat ha]
  have h1 : (BitVec.ofInt 64 1).toNat = 1 := by decide
  rw [h1, Nat.and_one_is_mod]
  have e : ((a.toNat % 2 : Nat) : Int) = a % 2 := by omega
  rw [e]
  exact IntWalk.i64_in _ (by omega)
def bitsI (k n : Nat) : List Int := (bitsTo k n).map fun (i : Nat) => (i : Int)
theorem bitsI_len (k n : Nat) : (bitsI k n).length ≤ n := by unfold bitsI; rw [List.length_map]; exact bitsTo_len k n
theorem bitsI_succ (k i : Nat) : bitsI k (i + 1) = if k / 2 ^ i % 2 = 1 then bitsI k i ++ [(i : Int)] else bitsI k i := by
  unfold bitsI
  simp only [bitsTo]
  rw [Nat.testBit_eq_decide_div_mod_eq]
  by_cases h : k / 2 ^ i % 2 = 1
  · simp [h]
  · simp [h]


set_option maxHeartbeats 1600000 in
theorem membersOf_c (k n : Nat) (w : World) (hk : k ≤ 1024) (hn : n ≤ 20) (h0 : k / 2 ^ n = 0) : Calls Try.prog 57 #[.int .i64 k] w (RetInts (fun v' => v') w (bitsI k n)) := by
  have H0 := Lib.hid h0; clear h0
  go_enter Try.func57, Try.ntmps57
  go_wp2_with fail
  go_loopw [3, 4] (fun r i wr => ∃ j : Nat, j ≤ n ∧ i = .int .i64 j ∧ IRow w.heap.size wr r (bitsI k j) ∧ Ext w wr) (fun _ i _ => n - (intOf i).toNat)
  case atStart => exact ⟨0, Nat.zero_le _, rfl, IRow.nil, Ext.refl w⟩
  case round =>
    obtain ⟨j, hj, rfl, hr, hx⟩ := hrel
    obtain ⟨wo, rfl⟩ : ∃ wo : World, wo = wr := ⟨_, rfl⟩
    have HR := Lib.hid hr; clear hr
    have hmin : min j 64 = j := by omega
    have hwj : IntKind.u64.wrap (j : Int) = j := by simp [IntKind.wrap, IntKind.bits, IntKind.signed]; omega
    have HS := Lib.hid (bitsI_succ k j)
    have HQ0 : Hid (k / 2 ^ j ≤ k) := Lib.hid (Nat.div_le_self _ _)
    have hqi : (k : Int) / 2 ^ j = ((k / 2 ^ j : Nat) : Int) := by push_cast; rfl
    have HEX : Hid (k / 2 ^ j = 0 → bitsI k n = bitsI k j) := Lib.hid (fun h => by unfold bitsI; rw [bitsTo_more h n hj])
    have HJN : Hid (k / 2 ^ j ≠ 0 → j < n) := Lib.hid (fun h => by
      rcases Nat.lt_or_ge j n with h2 | h2
      · exact h2
      · have : j = n := by omega
        rw [this] at h; exact absurd H0.out h)
    obtain ⟨q, hq⟩ : ∃ q, k / 2 ^ j = q := ⟨_, rfl⟩
    rw [hq] at hqi HS HQ0 HEX HJN
    have HQE := Lib.hid hq; clear hq
    have hqk := HQ0.out
    have hb := bits_odd (a := (q : Int)) (by omega)
    by_cases hz : q = 0
    · have HZ := Lib.hid hz
      have hzz : ((q : Int)) = 0 := by omega
      rw [hzz] at hqi
      clear hz hzz hb
      go_wp2
      go_ret
      exact ⟨_, rfl, by rw [HEX.out HZ.out]; exact HR.out.own (Nat.le_refl _), hx⟩
    · have hjn := HJN.out hz
      have hq0 : ((q : Int) != 0) = true := by simp; exact hz
      have hq1 : decide ((0 : Int) < (q : Int)) = true := by simp; omega
      have hq2 : (0 : Int) < (q : Int) := by omega
      by_cases ho : q % 2 = 1
      · have hb1 : bits .and .i64 (q : Int) 1 = 1 := by rw [hb]; omega
        have HS2 : Hid (bitsI k (j + 1) = bitsI k j ++ [(j : Int)]) := Lib.hid (by rw [HS.out, if_pos ho])
        clear ho hb hz
        have hown := HR.out.ext ((Ext.refl wo).alloc (.cells #[.int .i64 j] 3))
        have HOWN := Lib.hid hown
        obtain ⟨L, hL⟩ : ∃ L, (bitsI k j).length = L := ⟨_, rfl⟩
        have hL2 := bitsI_len k j
        unfold IRow at hown
        rw [hL] at hown hL2
        have HOW2 := Lib.hid hown; clear hown
        have HL := Lib.hid hL; clear hL
        have hs := hx.size
        go_wp2_with (at_builtin; go_loud (refine app1 _ rfl _ _ 36 3 rfl (.int .i64 0) 8 Try.underlying36 info_int rfl w.heap.size _ L _ rfl HOW2.out wo.heap.size 1 3 (.int .i64 j) rfl (Box.new _ _ _ rfl) rfl (by omega) (by omega) (by simp; omega) ?_))
        intro g cp w3 hown3 hgrow hat hlt3
        have HX3 := Lib.hid (HOWN.out.grew (hx.alloc _) (Nat.le_refl _) hgrow)
        have HO3 := Lib.hid hown3; clear hown3 hgrow
        go_wp2
        go_roundw
        case rel => exact ⟨j + 1, by omega, by go_num, by rw [HS2.out]; exact IRow.push (by rw [HL.out]; exact HO3.out), HX3.out⟩
        case measure => simp [intOf]; omega
      · have hb1 : bits .and .i64 (q : Int) 1 = 0 := by rw [hb]; omega
        have HS2 : Hid (bitsI k (j + 1) = bitsI k j) := Lib.hid (by rw [HS.out, if_neg ho])
        clear ho hb hz
        go_wp2
        go_roundw
        case rel => exact ⟨j + 1, by omega, by go_num, by rw [HS2.out]; exact HR.out, hx⟩
        case measure => simp [intOf]; omega

set_option maxHeartbeats 1600000 in
theorem iBits_c (k n : Nat) (w : World) (hk : k ≤ 1024) (hn : n ≤ 20) (h0 : k / 2 ^ n = 0) : Calls Try.prog 50 #[.int .i64 k] w (RetInts (fun v' => v') w (bitsI k n)) := by
  have H0 := Lib.hid h0; clear h0
  go_enter Try.func50, Try.ntmps50
  go_wp2_with fail
  go_loopw [3, 4] (fun r i wr => ∃ j : Nat, j ≤ n ∧ i = .int .i64 j ∧ IRow w.heap.size wr r (bitsI k j) ∧ Ext w wr) (fun _ i _ => n - (intOf i).toNat)
  case atStart => exact ⟨0, Nat.zero_le _, rfl, IRow.nil, Ext.refl w⟩
  case round =>
    obtain ⟨j, hj, rfl, hr, hx⟩ := hrel
    obtain ⟨wo, rfl⟩ : ∃ wo : World, wo = wr := ⟨_, rfl⟩
    have HR := Lib.hid hr; clear hr
    have hmin : min j 64 = j := by omega
    have hwj : IntKind.u64.wrap (j : Int) = j := by simp [IntKind.wrap, IntKind.bits, IntKind.signed]; omega
    have HS := Lib.hid (bitsI_succ k j)
    have HQ0 : Hid (k / 2 ^ j ≤ k) := Lib.hid (Nat.div_le_self _ _)
    have hqi : (k : Int) / 2 ^ j = ((k / 2 ^ j : Nat) : Int) := by push_cast; rfl
    have HEX : Hid (k / 2 ^ j = 0 → bitsI k n = bitsI k j) := Lib.hid (fun h => by unfold bitsI; rw [bitsTo_more h n hj])
    have HJN : Hid (k / 2 ^ j ≠ 0 → j < n) := Lib.hid (fun h => by
      rcases Nat.lt_or_ge j n with h2 | h2
      · exact h2
      · have : j = n := by omega
        rw [this] at h; exact absurd H0.out h)
    obtain ⟨q, hq⟩ : ∃ q, k / 2 ^ j = q := ⟨_, rfl⟩
    rw [hq] at hqi HS HQ0 HEX HJN
    have HQE := Lib.hid hq; clear hq
    have hqk := HQ0.out
    have hb := bits_odd (a := (q : Int)) (by omega)
    by_cases hz : q = 0
    · have HZ := Lib.hid hz
      have hzz : ((q : Int)) = 0 := by omega
      rw [hzz] at hqi
      clear hz hzz hb
      go_wp2
      go_ret
      exact ⟨_, rfl, by rw [HEX.out HZ.out]; exact HR.out.own (Nat.le_refl _), hx⟩
    · have hjn := HJN.out hz
      have hq0 : ((q : Int) != 0) = true := by simp; exact hz
      have hq1 : decide ((0 : Int) < (q : Int)) = true := by simp; omega
      have hq2 : (0 : Int) < (q : Int) := by omega
      by_cases ho : q % 2 = 1
      · have hb1 : bits .and .i64 (q : Int) 1 = 1 := by rw [hb]; omega
        have HS2 : Hid (bitsI k (j + 1) = bitsI k j ++ [(j : Int)]) := Lib.hid (by rw [HS.out, if_pos ho])
        clear ho hb hz
        have hown := HR.out.ext ((Ext.refl wo).alloc (.cells #[.int .i64 j] 3))
        have HOWN := Lib.hid hown
        obtain ⟨L, hL⟩ : ∃ L, (bitsI k j).length = L := ⟨_, rfl⟩
        have hL2 := bitsI_len k j
        unfold IRow at hown
        rw [hL] at hown hL2
        have HOW2 := Lib.hid hown; clear hown
        have HL := Lib.hid hL; clear hL
        have hs := hx.size
        go_wp2_with (at_builtin; go_loud (refine app1 _ rfl _ _ 36 3 rfl (.int .i64 0) 8 Try.underlying36 info_int rfl w.heap.size _ L _ rfl HOW2.out wo.heap.size 1 3 (.int .i64 j) rfl (Box.new _ _ _ rfl) rfl (by omega) (by omega) (by simp; omega) ?_))
        intro g cp w3 hown3 hgrow hat hlt3
        have HX3 := Lib.hid (HOWN.out.grew (hx.alloc _) (Nat.le_refl _) hgrow)
        have HO3 := Lib.hid hown3; clear hown3 hgrow
        go_wp2
        go_roundw
        case rel => exact ⟨j + 1, by omega, by go_num, by rw [HS2.out]; exact IRow.push (by rw [HL.out]; exact HO3.out), HX3.out⟩
        case measure => simp [intOf]; omega
      · have hb1 : bits .and .i64 (q : Int) 1 = 0 := by rw [hb]; omega
        have HS2 : Hid (bitsI k (j + 1) = bitsI k j) := Lib.hid (by rw [HS.out, if_neg ho])
        clear ho hb hz
        go_wp2
        go_roundw
        case rel => exact ⟨j + 1, by omega, by go_num, by rw [HS2.out]; exact HR.out, hx⟩
        case measure => simp [intOf]; omega

def pickN (xs : List Int) (ks : List Int) : List Int := ks.map fun i => ix xs i.toNat
theorem pickN_take {xs ks : List Int} {k : Nat} (hk : k < ks.length) : pickN xs (ks.take (k + 1)) = pickN xs (ks.take k) ++ [ix xs (ix ks k).toNat] := by
  simp [pickN, take_succ_ix hk]
set_option maxHeartbeats 1600000 in
theorem sPickN_c (v1 v2 : Value) (xs vars : List Int) (w : World) (h1 : Ints w v1 xs) (h2 : Ints w v2 vars) (hr : ∀ k, k < vars.length → ∃ i : Nat, ix vars k = i ∧ i < xs.length) (hk6 : vars.length ≤ 1000) :
    Calls Try.prog 49 #[v1, v2] w (RetInts (fun v' => v') w (pickN xs vars)) := by
  obtain ⟨a1, c1, rfl, e1, e2, g1⟩ := h1
  obtain ⟨a2, c2, rfl, e3, e4, g2⟩ := h2
  have G1 := Lib.hid g1; clear g1
  have G2 := Lib.hid g2; clear g2
  have HK := Lib.hid hr; clear hr
  go_enter Try.func49, Try.ntmps49
  go_wp2
  go_loopw [5, 10] (fun r i wr => ∃ k : Nat, k ≤ vars.length ∧ i = .int .i64 k ∧ IRow w.heap.size wr r (pickN xs (vars.take k)) ∧ Ext w wr) (fun _ i _ => vars.length - (intOf i).toNat)
  case atStart => exact ⟨0, Nat.zero_le _, rfl, by simpa [pickN] using IRow.nil, Ext.refl w⟩
  case round =>
    obtain ⟨k, hk, rfl, hr, hx⟩ := hrel
    obtain ⟨wo, rfl⟩ : ∃ wo : World, wo = wr := ⟨_, rfl⟩
    have HR := Lib.hid hr; clear hr
    by_cases hlt : k < vars.length
    · obtain ⟨b2, o2, rfl, hc⟩ := G2.out k hlt
      have hc' := Ext.cell hx hc
      obtain ⟨i, ei, hi2⟩ := HK.out k hlt
      have HE : Hid ((ix vars k).toNat = i) := Lib.hid (by omega)
      rw [ei] at hc'
      obtain ⟨b1, o1, rfl, hd0'⟩ := G1.out i hi2
      have hd0 := Ext.cell hx hd0'
      have HPT := Lib.hid (pickN_take (xs := xs) hlt)
      rw [HE.out] at HPT
      clear ei hc hd0'
      obtain ⟨x, hxe⟩ : ∃ x, ix xs i = x := ⟨_, rfl⟩
      rw [hxe] at hd0 HPT
      clear hxe
      have hlen : (pickN xs (vars.take k)).length = k := by simp [pickN]; omega
      have hown := HR.out.ext ((Ext.refl wo).alloc (.cells #[.int .i64 x] 3))
      have HOWN := Lib.hid hown
      unfold IRow at hown
      rw [hlen] at hown
      have HOW2 := Lib.hid hown; clear hown
      have HLEN := Lib.hid hlen; clear hlen
      have hs := hx.size
      go_wp2_with (at_builtin; go_loud (refine app1 _ rfl _ _ 36 3 rfl (.int .i64 0) 8 Try.underlying36 info_int rfl w.heap.size _ k _ rfl HOW2.out wo.heap.size 1 3 (.int .i64 x) rfl (Box.new _ _ _ rfl) rfl (by omega) (by omega) (by simp; omega) ?_))
      intro g cp w3 hown3 hgrow hat hlt3
      have hx3 := HOWN.out.grew (hx.alloc _) (Nat.le_refl _) hgrow
      have HO3 := Lib.hid hown3; clear hown3
      have HX3 := Lib.hid hx3; clear hx3
      clear hgrow
      go_wp2
      go_roundw
      case rel => exact ⟨k + 1, by omega, by go_num, by rw [HPT.out]; exact IRow.push (by rw [HLEN.out]; exact HO3.out), HX3.out⟩
      case measure => simp [intOf]; omega
    · have hkl : vars.take k = vars := List.take_of_length_le (by omega)
      have HKL := Lib.hid hkl; clear hkl
      go_wp2
      go_ret
      refine ⟨_, rfl, ?_, hx⟩
      have := HR.out.own (Nat.le_refl _)
      rwa [HKL.out] at this
end Go.Proofs.Ytodnkahnbidgaaa
namespace Go.Proofs.Ytodnkahnbidgaaa
open Go.RowKit
open Fm

/-- some cells are hidden, too -/
def setCells (P : List (List Int)) (A : List (List Int)) : List (List Int) := A.foldl (fun P r => setOne P (ix r 0).toNat (ix r 1).toNat) P
theorem setCells_snoc (P A : List (List Int)) (r : List Int) : setCells P (A ++ [r]) = setOne (setCells P A) (ix r 0).toNat (ix r 1).toNat := by simp [setCells]
theorem setCells_rc {n m : Nat} : ∀ (A : List (List Int)) {P : List (List Int)}, Rc n m P → Rc n m (setCells P A)
  | [], _, h => h
  | r :: A, P, h => setCells_rc A (P := setOne P (ix r 0).toNat (ix r 1).toNat) (setOne_rc h _ _)
/-- each row is a place -/
def Places (n m : Nat) (A : List (List Int)) : Prop := ∀ r ∈ A, ∃ i j, i < n ∧ j < m ∧ r = pairI i j
theorem elOf_setCells {n m : Nat} : ∀ (A : List (List Int)) {P : List (List Int)}, Rc n m P → Places n m A → ∀ i j, elOf (setCells P A) i j = 1 ∨ elOf (setCells P A) i j = elOf P i j
  | [], _, _, _, _, _ => .inr rfl
  | r :: A, P, h, hp, i, j => by
    obtain ⟨a, b, ha, hb, e⟩ := hp r (by simp)
    have e0 : (ix r 0).toNat = a := by subst e; show ((a : Int)).toNat = a; omega
    have e1 : (ix r 1).toNat = b := by subst e; show ((b : Int)).toNat = b; omega
    have ih := elOf_setCells A (P := setOne P a b) (setOne_rc h a b) (fun r hr => hp r (by simp [hr])) i j
    have es : setCells P (r :: A) = setCells (setOne P a b) A := by simp [setCells, e0, e1]
    rw [es]
    rw [elOf_setOne h ha hb] at ih
    rcases ih with ih | ih
    · exact .inl ih
    · split at ih
      · exact .inl ih
      · exact .inr ih
theorem elOf_setCells_in {n m : Nat} : ∀ (A : List (List Int)) {P : List (List Int)}, Rc n m P → Places n m A → ∀ i j, pairI i j ∈ A → elOf (setCells P A) i j = 1
  | [], _, _, _, _, _, h => by cases h
  | r :: A, P, h, hp, i, j, hm => by
    obtain ⟨a, b, ha, hb, e⟩ := hp r (by simp)
    have e0 : (ix r 0).toNat = a := by subst e; show ((a : Int)).toNat = a; omega
    have e1 : (ix r 1).toNat = b := by subst e; show ((b : Int)).toNat = b; omega
    have es : setCells P (r :: A) = setCells (setOne P a b) A := by simp [setCells, e0, e1]
    rw [es]
    rcases List.mem_cons.1 hm with hm | hm
    · have hij : pairI i j = pairI a b := hm.trans e
      obtain ⟨rfl, rfl⟩ := pairI_inj hij
      rcases elOf_setCells A (P := setOne P i j) (setOne_rc h i j) (fun r hr => hp r (by simp [hr])) i j with h1 | h1
      · exact h1
      · rw [h1, elOf_setOne h ha hb, if_pos ⟨rfl, rfl⟩]
    · exact elOf_setCells_in A (P := setOne P a b) (setOne_rc h a b) (fun r hr => hp r (by simp [hr])) i j hm
theorem inp_setCells {x Q : List (List Int)} : ∀ (A : List (List Int)) {P : List (List Int)}, inpB x P Q = true → Places x.length (rowAt x 0).length A → inpB x (setCells P A) Q = true
  | [], _, h, _ => h
  | r :: A, P, h, hp => by
    obtain ⟨a, b, ha, hb, e⟩ := hp r (by simp)
    have e0 : (ix r 0).toNat = a := by subst e; show ((a : Int)).toNat = a; omega
    have e1 : (ix r 1).toNat = b := by subst e; show ((b : Int)).toNat = b; omega
    have es : setCells P (r :: A) = setCells (setOne P a b) A := by simp [setCells, e0, e1]
    rw [es]
    exact inp_setCells A (inp_set h ha hb) (fun r hr => hp r (by simp [hr]))

/-! ### More cells hidden protect no less -/
theorem flow_more {x P Q : List (List Int)} (hP : pubB x P = true) (hQ : pubB x Q = true) (hm : ∀ i j, i < x.length → j < (rowAt x 0).length → elOf P i j = 1 → elOf Q i j = 1) {y : Nat → Nat → Int} (h : Flow (NetT (atkT x P)) y) : Flow (NetT (atkT x Q)) y := by
  have en : ∀ R, (NetT (atkT x R)).n = x.length := fun R => atk_rl x R
  have em : ∀ R, (NetT (atkT x R)).m = (rowAt x 0).length := fun R => atk_cl x R
  refine ⟨fun i j hi hj => ?_, fun i j hi hj => ?_, fun i hi => h.row i hi, fun j hj => h.col j hj⟩
  · have hi' := hi
    have hj' := hj
    rw [en] at hi'
    rw [em] at hj'
    have h1 : elOf (atkT x P).lo i j ≤ y i j := h.lo i j hi hj
    show elOf (atkT x Q).lo i j ≤ y i j
    have hx := pub_el hP hi' hj'
    rw [atk_lo hP hi' hj'] at h1
    rw [atk_lo hQ hi' hj']
    by_cases e : elOf P i j = 1
    · rw [if_pos e] at h1; rw [if_pos (hm i j hi' hj' e)]; exact h1
    · rw [if_neg e] at h1
      split <;> omega
  · have hi' := hi
    have hj' := hj
    rw [en] at hi'
    rw [em] at hj'
    have h1 : y i j ≤ elOf (atkT x P).hi i j := h.hi i j hi hj
    show y i j ≤ elOf (atkT x Q).hi i j
    have hx := pub_el hP hi' hj'
    rw [atk_hi hP hi' hj'] at h1
    rw [atk_hi hQ hi' hj']
    by_cases e : elOf P i j = 1
    · rw [if_pos e] at h1; rw [if_pos (hm i j hi' hj' e)]; exact h1
    · rw [if_neg e] at h1
      split <;> omega
theorem safe_mono {x P Q S : List (List Int)} {down up : Int} (hP : pubB x P = true) (hQ : pubB x Q = true) (hS : pubB x S = true) (hm : ∀ i j, i < x.length → j < (rowAt x 0).length → elOf P i j = 1 → elOf Q i j = 1) (h : safeB x P S down up = true) : safeB x Q S down up = true := by
  rw [safeB_true] at h ⊢
  intro i j hi hj h1
  have hr := pat_rc hS
  have hi' : i < x.length := by rw [← hr.len]; exact hi
  have hj' : j < (rowAt x 0).length := by rw [hr.row i hi'] at hj; exact hj
  have h2 := h i j hi hj h1
  unfold protB at h2 ⊢
  simp only [Bool.and_eq_true, decide_eq_true_eq] at h2 ⊢
  have a1 : i < (atkT x P).rows.length := by rw [atk_rl]; exact hi'
  have a2 : j < (atkT x P).cols.length := by rw [atk_cl]; exact hj'
  have b1 : i < (atkT x Q).rows.length := by rw [atk_rl]; exact hi'
  have b2 : j < (atkT x Q).cols.length := by rw [atk_cl]; exact hj'
  obtain ⟨⟨y, hy, ey⟩, _⟩ := low_is a1 a2 ⟨_, atk_flow hP⟩
  obtain ⟨⟨z, hz, ez⟩, _⟩ := high_is a1 a2 ⟨_, atk_flow hP⟩
  have l2 := (low_is b1 b2 ⟨_, atk_flow hQ⟩).2 y (flow_more hP hQ hm hy)
  have g2 := (high_is b1 b2 ⟨_, atk_flow hQ⟩).2 z (flow_more hP hQ hm hz)
  unfold qLo qHi at *
  omega

/-! ### The free cells -/
theorem cellsTo_nodup {f : Nat → Nat → Int → Bool} {p : List (List Int)} : (cellsL f p).Nodup := by
  unfold cellsL cellsTo
  have hr : ∀ i l, (rowC f i (rowAt p i) l).Nodup := fun i l => by
    unfold rowC
    rw [List.Nodup, List.pairwise_map]
    refine (List.Pairwise.filter _ List.nodup_range).imp ?_
    intro a b hab e
    exact hab (pairI_inj e).2
  rw [List.nodup_append]
  refine ⟨?_, hr _ _, ?_⟩
  · rw [List.Nodup, List.pairwise_flatMap]
    refine ⟨fun i _ => hr i _, ?_⟩
    refine List.nodup_range.imp ?_
    intro a b hab r hr' s hs' e
    simp only [rowC, List.mem_map, List.mem_filter, List.mem_range] at hr' hs'
    obtain ⟨c, _, rfl⟩ := hr'
    obtain ⟨d, _, rfl⟩ := hs'
    exact hab (pairI_inj e).1
  · intro r hr' s hs' e
    simp [rowC] at hs'
theorem rows_inj {L : List (List Int)} (h : L.Nodup) : ∀ i j, i < L.length → j < L.length → rowAt L i = rowAt L j → i = j := by
  intro i j hi hj e
  rw [rowAt_eq hi, rowAt_eq hj] at e
  exact (List.getElem_inj h).1 e
def freeL (P : List (List Int)) : List (List Int) := cellsL zeroF P
theorem free_places {n m : Nat} {P : List (List Int)} (h : Rc n m P) : Places n m (freeL P) := by
  intro r hr
  obtain ⟨i, j, hi, hj, e⟩ := cellsTo_row (n := n) (m := m) (k := P.length) (l := 0) (by rw [h.len]; exact Nat.le_refl _) (.inr rfl) (Nat.zero_le _) h.row r hr
  exact ⟨i, j, hi, hj, e⟩
theorem free_mem {n m : Nat} {P : List (List Int)} (h : Rc n m P) {i j : Nat} (hi : i < n) (hj : j < m) (h0 : elOf P i j = 0) : pairI i j ∈ freeL P := by
  obtain ⟨t, ht, e⟩ := cellsL_mem (f := zeroF) (p := P) (i := i) (j := j) (by rw [h.len]; exact hi) (by rw [h.row i hi]; exact hj) (by simp [zeroF, h0])
  rw [← e]; exact rowAt_mem ht
def selM (P : List (List Int)) (k : Nat) : List (List Int) := cellsM (freeL P) k
theorem sel_places {n m : Nat} {P : List (List Int)} (h : Rc n m P) (k : Nat) : Places n m (selM P k) := fun r hr => free_places h r (cellsM_sub r hr)
theorem sel_two {n m : Nat} {P : List (List Int)} (h : Rc n m P) (k : Nat) : ∀ r ∈ selM P k, r.length = 2 := fun r hr => by
  obtain ⟨i, j, _, _, rfl⟩ := sel_places h k r hr
  rfl
theorem sel_snd {n m : Nat} {P : List (List Int)} (h : Rc n m P) (k : Nat) : ∀ r ∈ selM P k, r.length = 2 ∧ 0 ≤ ix r 1 ∧ ix r 1 < m := fun r hr => by
  obtain ⟨i, j, _, hj, rfl⟩ := sel_places h k r hr
  refine ⟨rfl, ?_, ?_⟩
  · show (0 : Int) ≤ (j : Int); omega
  · show (j : Int) < m; omega
/-- what a mask costs -/
def keyM (x P : List (List Int)) (k : Nat) : List Int := keyL (selM P k) (sumR x (selM P k))
noncomputable def safeM (x P : List (List Int)) (down up : Int) (k : Nat) : Bool := safeB x (setCells P (selM P k)) P down up
theorem keyM_inj {x P : List (List Int)} {n m : Nat} (h : Rc n m P) {k l : Nat} (hk : k < 2 ^ (freeL P).length) (hl : l < 2 ^ (freeL P).length) (e : cmpL (keyM x P k) (keyM x P l) = 0) : k = l := by
  unfold keyM at e
  rw [← or3_key _ _ (sel_two h k) (sel_two h l)] at e
  unfold or3 at e
  have e3 : cmpLL (selM P k) (selM P l) = 0 := by
    by_cases h1 : cmpI ((selM P k).length : Int) ((selM P l).length : Int) = 0
    · by_cases h2 : cmpI (sumR x (selM P k)) (sumR x (selM P l)) = 0
      · simpa [h1, h2] using e
      · simp [h1, h2] at e
    · simp [h1] at e
  exact cellsM_inj (rows_inj cellsTo_nodup) hk hl (cmpLL_eq e3)
/-- if the pattern with all cells hidden does not protect, none does -/
theorem none_safe {x P : List (List Int)} {down up : Int} (h : inpB x P P = true) (h0 : safeB x (setCells P (freeL P)) P down up = false) (k : Nat) : safeM x P down up k = false := by
  obtain ⟨hp, _, _⟩ := inpB_true h
  have hr := pat_rc hp
  cases hs : safeM x P down up k
  · rfl
  · have h1 := inp_setCells _ h (sel_places hr k)
    have h2 := inp_setCells _ h (free_places hr)
    obtain ⟨q1, _, _⟩ := inpB_true h1
    obtain ⟨q2, _, _⟩ := inpB_true h2
    have := safe_mono q1 q2 hp (fun i j hi hj _ => by
      rcases pat01 hp hi hj with e | e
      · exact elOf_setCells_in _ hr (free_places hr) i j (free_mem hr hi hj e)
      · rcases elOf_setCells _ hr (free_places hr) i j with e2 | e2
        · exact e2
        · rw [e2]; exact e) hs
    rw [h0] at this; cases this
noncomputable def lpO (x P : List (List Int)) (down up : Int) : Option Nat :=
  if cpB x P down up = true ∧ (freeL P).length ≤ 10 then leastO (2 ^ (freeL P).length) (safeM x P down up) (keyM x P) else none
noncomputable def lpB (x P : List (List Int)) (down up : Int) : Bool := (lpO x P down up).isSome
def lpOf (x P : List (List Int)) : Option Nat → Pl
  | none => ⟨[], 0, 0⟩
  | some k => ⟨setCells P (selM P k), ((selM P k).length : Int), sumR x (selM P k)⟩
noncomputable def lpV (x P : List (List Int)) (down up : Int) : Pl := lpOf x P (lpO x P down up)
end Go.Proofs.Ytodnkahnbidgaaa
namespace Go.Proofs.Ytodnkahnbidgaaa
open Go.RowKit
open Go.Sort

/-- some draws and some new blocks further -/
def Grew (w w' : World) : Prop := ∃ q os', w' = grow (w.drewN q) os'
theorem Grew.refl (w : World) : Grew w w := ⟨0, #[], by rw [grow_empty]; rfl⟩
theorem Grew.drew {w x : World} (h : Grew w x) : Grew w x.drew := by
  obtain ⟨q, os, rfl⟩ := h
  exact ⟨q + 1, os, rfl⟩
theorem Grew.alloc {w x : World} (h : Grew w x) (o : Obj) : Grew w (x.alloc o) := by
  obtain ⟨q, os, rfl⟩ := h
  exact ⟨q, os ++ #[o], by rw [alloc_eq_grow, grow_grow]⟩
theorem Grew.ext {w x : World} (h : Grew w x) : Ext w x := by
  obtain ⟨q, os, rfl⟩ := h
  exact ⟨rfl, rfl, rfl, by rw [size_grow]; exact Nat.le_add_right _ _, fun i hi _ => heap_grow_old (w.drewN q) os hi⟩

set_option maxRecDepth 100000 in
set_option maxHeartbeats 12800000 in
theorem lpC_c (c1 c2 : Value) (a b : Int) (A B : List (List Int)) (w : World) (h1 : Grid w c1 A) (h2 : Grid w c2 B) :
    Calls Try.prog 60 #[.agg #[c1, .int .i64 a], .agg #[c2, .int .i64 b]] w fun e w' => e = .returned (.int .i64 (or3 (cmpI A.length B.length) (cmpI a b) (cmpLL A B))) ∧ Grew w w' := by
  have H1 := Lib.hid h1
  have H2 := Lib.hid h2
  obtain ⟨a1, p1, rfl, z1, z2, z3⟩ := h1
  obtain ⟨a2, p2, rfl, y1, y2, y3⟩ := h2
  clear z1 z2 z3 y1 y2 y3
  obtain ⟨n, hn⟩ : ∃ n, A.length = n := ⟨_, rfl⟩
  obtain ⟨m, hm⟩ : ∃ n, B.length = n := ⟨_, rfl⟩
  rw [hn] at H1 ⊢
  rw [hm] at H2 ⊢
  clear hn hm
  have b1 := Box.new w 68 #[.slice a1 n p1, .int .i64 a] rfl
  have b2 := Box.new (w.alloc (.cells #[.slice a1 n p1, .int .i64 a] 68)) 68 #[.slice a2 m p2, .int .i64 b] rfl
  have u2 := (Ext.refl (w.alloc (.cells #[.slice a1 n p1, .int .i64 a] 68))).alloc (.cells #[.slice a2 m p2, .int .i64 b] 68)
  have b1' := b1.ext u2
  have G2 := ((Grew.refl w).alloc (.cells #[.slice a1 n p1, .int .i64 a] 68)).alloc (.cells #[.slice a2 m p2, .int .i64 b] 68)
  have k0 := b1'.cell 0 (by simp)
  have k1 := b1'.cell 1 (by simp)
  have j0 := b2.cell 0 (by simp)
  have j1 := b2.cell 1 (by simp)
  have e1 : (w.alloc (.cells #[.slice a1 n p1, .int .i64 a] 68)).heap.size = w.heap.size + 1 := by simp
  rw [e1] at j0 j1
  clear b1 b2 b1' u2 e1
  have START := Lib.hid (show ∀ x, x = (w.alloc (.cells #[.slice a1 n p1, .int .i64 a] 68)).alloc (.cells #[.slice a2 m p2, .int .i64 b] 68) → (x.drew.cell? ⟨w.heap.size, 0, none⟩ = some (.slice a1 n p1) ∧ x.drew.cell? ⟨w.heap.size, 1, none⟩ = some (.int .i64 a) ∧ x.drew.cell? ⟨w.heap.size + 1, 0, none⟩ = some (.slice a2 m p2) ∧ x.drew.cell? ⟨w.heap.size + 1, 1, none⟩ = some (.int .i64 b) ∧ Grew w x.drew) from
    fun x hx => by subst hx; exact ⟨k0, k1, j0, j1, G2.drew⟩)
  have STEP := Lib.hid (show ∀ (x : World) (o : Obj), (x.cell? ⟨w.heap.size, 0, none⟩ = some (.slice a1 n p1) ∧ x.cell? ⟨w.heap.size, 1, none⟩ = some (.int .i64 a) ∧ x.cell? ⟨w.heap.size + 1, 0, none⟩ = some (.slice a2 m p2) ∧ x.cell? ⟨w.heap.size + 1, 1, none⟩ = some (.int .i64 b) ∧ Grew w x) → ((x.alloc o).cell? ⟨w.heap.size, 0, none⟩ = some (.slice a1 n p1) ∧ (x.alloc o).cell? ⟨w.heap.size, 1, none⟩ = some (.int .i64 a) ∧ (x.alloc o).cell? ⟨w.heap.size + 1, 0, none⟩ = some (.slice a2 m p2) ∧ (x.alloc o).cell? ⟨w.heap.size + 1, 1, none⟩ = some (.int .i64 b) ∧ Grew w (x.alloc o)) from
    fun x o h => ⟨Ext.cell ((Ext.refl x).alloc o) h.1, Ext.cell ((Ext.refl x).alloc o) h.2.1, Ext.cell ((Ext.refl x).alloc o) h.2.2.1, Ext.cell ((Ext.refl x).alloc o) h.2.2.2.1, h.2.2.2.2.alloc o⟩)
  have BX := Lib.hid (show ∀ x y z : Int, Box (World.drew (World.alloc ((w.alloc (.cells #[.slice a1 n p1, .int .i64 a] 68)).alloc (.cells #[.slice a2 m p2, .int .i64 b] 68)) (.cells #[.int .i64 x, .int .i64 y, .int .i64 z] 3))) (w.heap.size + 1 + 1) 3 #[.int .i64 x, .int .i64 y, .int .i64 z] from fun x y z => by
    have h := (Box.new ((w.alloc (.cells #[.slice a1 n p1, .int .i64 a] 68)).alloc (.cells #[.slice a2 m p2, .int .i64 b] 68)) 3 #[.int .i64 x, .int .i64 y, .int .i64 z] rfl).ext (Ext.refl _).drew
    have e : (World.heap ((w.alloc (.cells #[.slice a1 n p1, .int .i64 a] 68)).alloc (.cells #[.slice a2 m p2, .int .i64 b] 68))).size = w.heap.size + 1 + 1 := by simp
    rw [e] at h
    exact h)
  clear k0 k1 j0 j1 G2
  go_enter Try.func60, Try.ntmps60
  go_wp2_with fail
  go_region_held3 (fun x => x.cell? ⟨w.heap.size, 0, none⟩ = some (.slice a1 n p1) ∧ x.cell? ⟨w.heap.size, 1, none⟩ = some (.int .i64 a) ∧ x.cell? ⟨w.heap.size + 1, 0, none⟩ = some (.slice a2 m p2) ∧ x.cell? ⟨w.heap.size + 1, 1, none⟩ = some (.int .i64 b) ∧ Grew w x)
    (first | assumption | exact START.out _ rfl | exact STEP.out _ _ (by assumption))
    ((first
      | (go_at_call 62; (refine (compare_c _ _ _).mono ?_); rintro e w' ⟨rfl, rfl⟩)
      | (go_at_call 63; (refine (compareLL_c _ _ A B _ (H1.out.ext (Grew.ext (by go_split_ands; assumption))) (H2.out.ext (Grew.ext (by go_split_ands; assumption)))).mono ?_); rintro e w' ⟨rfl, rfl⟩)
      | (go_at_call 61; (refine (or3_c (w.heap.size + 1 + 1) _ _ _ _ (BX.out _ _ _)).mono ?_); rintro e w' ⟨rfl, rfl⟩)))
  all_goals
    go_wp2
    go_ret
    exact ⟨rfl, by go_split_ands; assumption⟩
end Go.Proofs.Ytodnkahnbidgaaa
namespace Go.Proofs.Ytodnkahnbidgaaa
open Go.RowKit
open Fm

theorem setTo_cells {n m : Nat} {P : List (List Int)} {A : List (List Int)} (hp : Places n m A) : ∀ t, t ≤ A.length → setTo P m (A.map (placeR m)) t = setCells P (A.take t)
  | 0, _ => by simp [setTo, setCells]
  | t + 1, h => by
    have hlt : t < A.length := by omega
    obtain ⟨i, j, hi, hj, e⟩ := hp (rowAt A t) (rowAt_mem hlt)
    have e1 : ix (A.map (placeR m)) t = ((i * m + j : Nat) : Int) := by
      rw [ix_eq (by simpa using hlt)]
      rw [rowAt_eq hlt] at e
      simp only [List.getElem_map, e]
      show (i : Int) * m + j = _
      push_cast; rfl
    have e2 : (i * m + j) / m = i := by
      rw [Nat.add_comm, Nat.add_mul_div_right _ _ (by omega), Nat.div_eq_of_lt hj]; omega
    have e3 : (i * m + j) % m = j := by
      rw [Nat.add_comm, Nat.add_mul_mod_self_right, Nat.mod_eq_of_lt hj]
    show setOne _ _ _ = _
    rw [setTo_cells hp t (by omega), take_succ_row hlt, setCells_snoc, e, e1, Int.toNat_natCast, e2, e3]
    rfl
theorem ints_pair {w : World} {a : Option Addr} {l c : Nat} {r : List Int} {i j : Nat} (h1 : r.length ≤ c) (h2 : c ≤ 9223372036854775807) (h3 : IntsA w a r) (hl : l = r.length) (e : r = pairI i j) : ∃ b o, a = some ⟨b, o, none⟩ ∧ l = 2 ∧ 2 ≤ c ∧ w.cell? ⟨b, o, none⟩ = some (.int .i64 i) ∧ w.cell? ⟨b, o + 1, none⟩ = some (.int .i64 j) := by
  subst e
  obtain ⟨b, o, e1, k0⟩ := h3 0 (by show 0 < 2; omega)
  obtain ⟨b', o', e2, k1⟩ := h3 1 (by show 1 < 2; omega)
  rw [e1] at e2
  obtain ⟨rfl, rfl⟩ : b = b' ∧ o = o' := by simpa using e2
  exact ⟨b, o, e1, hl, h1, k0, k1⟩

set_option maxRecDepth 100000 in
set_option maxHeartbeats 3200000 in
theorem valueOfCells_c (v1 v2 : Value) (x A : List (List Int)) (n m : Nat) (w : World) (h1 : Grid w v1 x) (h2 : Grid w v2 A) (rx : Rc n m x) (hp : Places n m A) (hA : A.length ≤ 64) (hd : n ≤ 8 ∧ m ≤ 8) (hx : ∀ i j, i < n → j < m → 0 ≤ elOf x i j ∧ elOf x i j ≤ 1000) :
    Calls Try.prog 58 #[v1, v2] w fun e w' => e = .returned (.int .i64 (sumR x A)) ∧ Drew w w' := by
  obtain ⟨ax, cx, rfl, x1, x2, x3⟩ := h1
  have GX := Lib.hid x3; clear x3
  obtain ⟨aA, cA, rfl, y1, y2, y3⟩ := h2
  have GA := Lib.hid y3; clear y3
  obtain ⟨K, hK⟩ : ∃ K, A.length = K := ⟨_, rfl⟩
  rw [hK] at y1 hA ⊢
  have HK := Lib.hid hK; clear hK
  rw [rx.len] at x1 ⊢
  have RX := Lib.hid rx; clear rx
  have HP := Lib.hid hp; clear hp
  have HXB := Lib.hid hx; clear hx
  go_enter Try.func58, Try.ntmps58
  go_wp2_with fail
  go_loopw [5, 10] (fun s i wr => ∃ t : Nat, t ≤ K ∧ s = .int .i64 (sumR x (A.take t)) ∧ i = .int .i64 t ∧ Drew w wr) (fun _ i _ => K - (intOf i).toNat)
  case atStart => exact ⟨0, Nat.zero_le _, rfl, rfl, Drew.refl w⟩
  case round =>
    obtain ⟨t, ht, rfl, rfl, hx⟩ := hrel
    obtain ⟨wo, rfl⟩ : ∃ wo : World, wo = wr := ⟨_, rfl⟩
    have HD := Lib.hid hx; clear hx
    by_cases hlt : t < K
    · have htA : t < A.length := by rw [HK.out]; exact hlt
      obtain ⟨i, j, hi, hj, er⟩ := HP.out (rowAt A t) (rowAt_mem htA)
      obtain ⟨bA, oA, a2, c2, rfl, hr0, s1, s2, s3⟩ := (GA.out.ext HD.out.ext).at_ htA
      obtain ⟨b2, o2, rfl, e2, q2, hc0, hc1⟩ := ints_pair s1 s2 s3 rfl er
      rw [e2] at hr0
      clear s1 s2 s3 e2
      obtain ⟨bx, ox, a3, c3, rfl, hx0, s4, s5, s6⟩ := (GX.out.ext HD.out.ext).at_ (k := i) (by rw [RX.out.len]; exact hi)
      rw [RX.out.row i hi] at hx0 s4
      obtain ⟨b5, o5, rfl, hx1⟩ := s6 j (by rw [RX.out.row i hi]; exact hj)
      clear s6 s5
      rw [show ix (rowAt x i) j = elOf x i j from rfl] at hx1
      have hb := HXB.out i j hi hj
      have hS := sumR_bound (x := x) (L := A.take t) HXB.out (fun r hr => HP.out r (List.mem_of_mem_take hr))
      have hlt2 : (A.take t).length ≤ 64 := by rw [List.length_take]; omega
      have HT := Lib.hid (show sumR x (A.take (t + 1)) = sumR x (A.take t) + elOf x i j by rw [take_succ_row htA, er, sumR_snoc])
      obtain ⟨S, hSe⟩ : ∃ S, sumR x (A.take t) = S := ⟨_, rfl⟩
      rw [hSe] at hS HT ⊢
      obtain ⟨E, hE⟩ : ∃ E, elOf x i j = E := ⟨_, rfl⟩
      rw [hE] at hx1 hb HT
      have hw : IntKind.i64.wrap (S + E) = S + E := IntWalk.i64_in _ (by omega)
      clear hSe hE er htA hS hlt2 hb
      go_upto_region 5 with fail
      go_quiet (fail)
      go_wp2_with fail
      go_roundw
      case rel => exact ⟨t + 1, by omega, by rw [HT.out], by go_num, HD.out.drewN _⟩
      case measure => simp [intOf]; omega
    · have hke : t = K := by omega
      subst hke
      have HT := Lib.hid (show A.take t = A by rw [List.take_of_length_le (by rw [HK.out]; exact Nat.le_refl _)])
      rw [HT.out]
      go_wp2
      go_ret
      exact ⟨rfl, HD.out⟩
set_option maxRecDepth 100000 in
set_option maxHeartbeats 3200000 in
theorem with_c (v1 v2 : Value) (P A : List (List Int)) (n m : Nat) (w : World) (h1 : Grid w v1 P) (h2 : Grid w v2 A) (hr : Rc n m P) (hd : 1 ≤ n ∧ n ≤ 8 ∧ 1 ≤ m ∧ m ≤ 8) (hp : Places n m A) (hA : A.length ≤ 64) :
    Calls Try.prog 56 #[v1, v2] w (RetGrid (fun v' => v') w (setCells P A)) := by
  have H1 := Lib.hid h1; clear h1
  have RP := Lib.hid hr; clear hr
  obtain ⟨aA, cA, rfl, y1, y2, y3⟩ := h2
  have GA := Lib.hid y3; clear y3
  obtain ⟨K, hK⟩ : ∃ K, A.length = K := ⟨_, rfl⟩
  rw [hK] at y1 hA ⊢
  have HK := Lib.hid hK; clear hK
  have HP := Lib.hid hp; clear hp
  go_enter Try.func56, Try.ntmps56
  go_wp2_with fail
  refine (copyMatrix_c _ P w H1.out (by rw [RP.out.len]; omega) (fun k hk => by rw [RP.out.row k (by rw [← RP.out.len]; exact hk)]; omega) (fun k hk e => by have := RP.out.row k (by rw [← RP.out.len]; exact hk); rw [e] at this; simp at this; omega)).mono ?_
  rintro e w1 ⟨v', rvs, rfl, og, u1⟩
  obtain ⟨ao, cap, rfl, q4, q5, q6⟩ := og
  have GO := Lib.hid q6; clear q6
  rw [RP.out.len] at q4 ⊢
  have hs1 := u1.size
  go_wp2_with fail
  go_loopw [12] (fun i wr => ∃ t : Nat, t ≤ K ∧ i = .int .i64 t ∧ OwnGA w.heap.size w1.heap.size wr ao rvs (setCells P (A.take t)) ∧ w1.heap.size ≤ wr.heap.size ∧ Ext w wr) (fun i _ => K - (intOf i).toNat)
  case atStart => exact ⟨0, Nat.zero_le _, rfl, GO.out, Nat.le_refl _, u1⟩
  case round =>
    obtain ⟨t, ht, rfl, hg, hsz, hx⟩ := hrel
    obtain ⟨wo, rfl⟩ : ∃ wo : World, wo = wr := ⟨_, rfl⟩
    have HG := Lib.hid hg; clear hg
    by_cases hlt : t < K
    · have htA : t < A.length := by rw [HK.out]; exact hlt
      obtain ⟨i, j, hi, hj, er⟩ := HP.out (rowAt A t) (rowAt_mem htA)
      obtain ⟨bA, oA, a2, c2, rfl, hr0, s1, s2, s3⟩ := (GA.out.ext hx).at_ htA
      obtain ⟨b2, o2, rfl, e2, q2, hc0, hc1⟩ := ints_pair s1 s2 s3 rfl er
      rw [e2] at hr0
      clear s1 s2 s3 e2
      have HST := Lib.hid (show setCells P (A.take (t + 1)) = setOne (setCells P (A.take t)) i j by rw [take_succ_row htA, setCells_snoc, er]; rfl)
      obtain ⟨Q, hQ⟩ : ∃ Q, setCells P (A.take t) = Q := ⟨_, rfl⟩
      have RQ := Lib.hid (show Rc n m Q by rw [← hQ]; exact setCells_rc _ RP.out)
      rw [hQ] at HG HST
      clear hQ er htA
      have hz9 : i < Q.length := by rw [RQ.out.len]; exact hi
      have hrl : j < (rowAt Q i).length := by rw [RQ.out.row i hi]; exact hj
      obtain ⟨bq, oq, rfl, l1, l2, l3, hc, hf⟩ := HG.out.at_ hz9
      obtain ⟨ar, cr2, ev, s1, s2⟩ := HG.out.rowForm hz9
      rw [RQ.out.row i hi] at ev s1
      rw [ev] at hc
      obtain ⟨b6, o6, rfl, m1, m2, m3, hc6, hf6, st⟩ := HG.out.store hz9 hrl ev
      have ST := Lib.hid st; clear st ev hf hz9 hrl
      go_upto_region 5 with fail
      replace hc := show wo.drew.cell? _ = _ from hc
      replace hc6 := show wo.drew.cell? _ = _ from hc6
      replace hf6 := show wo.drew.frozen? _ = _ from hf6
      replace hc0 := show wo.drew.cell? _ = _ from hc0
      replace hc1 := show wo.drew.cell? _ = _ from hc1
      replace hr0 := show wo.drew.cell? _ = _ from hr0
      refine wp_region_still_tail 10 (by kernel_rfl) (by kernel_rfl) ?_
      change wpStill _ _ wo.drew (fun a' => wpList _ _ _ _ a' wo.drew) _ _
      simp only [List.take_succ_cons, List.take_zero, List.drop_succ_cons, List.drop_zero]
      obtain ⟨wp, hwp⟩ : ∃ wp, wp = wo.drew := ⟨_, rfl⟩
      rw [← hwp] at hc hc6 hf6 hc0 hc1 hr0 ⊢
      have EP := Lib.hid (show Ext wo wp by rw [hwp]; exact (Ext.refl _).drew)
      have HWP := Lib.hid hwp; clear hwp
      repeat still_step
      refine wpStill_nil ?_
      go_wp2_with fail
      go_roundw
      case rel => exact ⟨t + 1, by omega, by go_num, by rw [HST.out, HWP.out]; exact (show OwnGA _ _ (wo.setCell ⟨b6, o6 + j, none⟩ (.int .i64 1)).drew _ _ _ from (ST.out 1).ext (Ext.refl _).drew), by rw [HWP.out]; simp [World.setCell]; exact hsz, (hx.trans EP.out).setCell _ (by simp; omega)⟩
      case measure => simp [intOf]; omega
    · have hke : t = K := by omega
      subst hke
      have HT := Lib.hid (show A.take t = A by rw [List.take_of_length_le (by rw [HK.out]; exact Nat.le_refl _)])
      rw [HT.out] at HG
      go_wp2
      go_ret
      exact ⟨.slice ao n cap, rvs, rfl, ⟨ao, cap, by rw [(setCells_rc A RP.out).len], by rw [(setCells_rc A RP.out).len]; exact q4, q5, HG.out.mono (Nat.le_refl _) hsz⟩, hx⟩
set_option maxRecDepth 100000 in
set_option maxHeartbeats 3200000 in
theorem less_c (v1 v2 : Value) (xs ys : List Int) (w : World) (h1 : Ints w v1 xs) (h2 : Ints w v2 ys) (hl : xs.length = ys.length) (hne : xs ≠ ys) :
    Calls Try.prog 52 #[v1, v2] w fun e w' => e = .returned (.int .i64 (cmpL xs ys)) ∧ Drew w w' := by
  obtain ⟨a1, c1, rfl, p1, q1, g1⟩ := h1
  have G1 := Lib.hid g1; clear g1
  obtain ⟨a2, c2, rfl, p2, q2, g2⟩ := h2
  have G2 := Lib.hid g2; clear g2
  obtain ⟨K, hK⟩ : ∃ K, ys.length = K := ⟨_, rfl⟩
  rw [hl] at p1 ⊢
  rw [hK] at p1 p2 hl ⊢
  have HK := Lib.hid (And.intro hl hK); clear hl hK
  have HNE := Lib.hid hne; clear hne
  go_enter Try.func52, Try.ntmps52
  go_wp2_with fail
  go_loopw [5] (fun i wr => ∃ t : Nat, t ≤ K ∧ i = .int .i64 t ∧ (∀ k, k < t → ix xs k = ix ys k) ∧ Drew w wr) (fun i _ => K - (intOf i).toNat)
  case atStart => exact ⟨0, Nat.zero_le _, rfl, fun k hk => by omega, Drew.refl w⟩
  case round =>
    obtain ⟨t, ht, rfl, he, hx⟩ := hrel
    obtain ⟨wo, rfl⟩ : ∃ wo : World, wo = wr := ⟨_, rfl⟩
    have HD := Lib.hid hx; clear hx
    have HE := Lib.hid he; clear he
    by_cases hlt : t < K
    · have t1 : t < xs.length := by rw [HK.out.1]; exact hlt
      have t2 : t < ys.length := by rw [HK.out.2]; exact hlt
      obtain ⟨b1, o1, rfl, k1⟩ := (G1.out.ext HD.out.ext) t t1
      obtain ⟨b2, o2, rfl, k2⟩ := (G2.out.ext HD.out.ext) t t2
      have hq := cmpI_cases (ix xs t) (ix ys t)
      have HC := Lib.hid (fun h => cmpL_at t1 t2 HE.out h)
      have HZ := Lib.hid (fun (h : ix xs t = ix ys t) k (hk : k < t + 1) => show ix xs k = ix ys k by
        by_cases e : k = t
        · subst e; exact h
        · exact HE.out k (by omega))
      clear t1 t2
      obtain ⟨X, hX⟩ : ∃ X, ix xs t = X := ⟨_, rfl⟩
      obtain ⟨Y, hY⟩ : ∃ Y, ix ys t = Y := ⟨_, rfl⟩
      rw [hX] at k1 hq HC HZ
      rw [hY] at k2 hq HC HZ
      clear hX hY
      rcases hq with ⟨h, e⟩ | ⟨h, e⟩ | ⟨h, e⟩
      · have HR := Lib.hid (show cmpL xs ys = -1 by rw [HC.out (by omega), e])
        clear e HC HZ
        have n1 : (X != Y) = true := by simp; omega
        have n2 : decide (X < Y) = true := by simp; omega
        go_upto_region 4 with fail
        go_quiet (fail)
        go_wp2_with fail
        go_quiet (fail)
        go_wp2_with fail
        go_ret
        exact ⟨ret_int HR.out.symm, (HD.out.drewN _).drewN _⟩
      · have HR := Lib.hid (show cmpL xs ys = 1 by rw [HC.out (by omega), e])
        clear e HC HZ
        have n1 : (X != Y) = true := by simp; omega
        have n2 : decide (X < Y) = false := by simp; omega
        go_upto_region 4 with fail
        go_quiet (fail)
        go_wp2_with fail
        go_quiet (fail)
        go_wp2_with fail
        go_ret
        exact ⟨ret_int HR.out.symm, (HD.out.drewN _).drewN _⟩
      · have n1 : (X != Y) = false := by simp; omega
        have HH := Lib.hid h; clear h e HC
        go_upto_region 4 with fail
        go_quiet (fail)
        go_wp2_with fail
        go_roundw
        case rel => exact ⟨t + 1, by omega, by go_num, HZ.out HH.out, HD.out.drewN _⟩
        case measure => simp [intOf]; omega
    · exfalso
      refine HNE.out (List.ext_getElem (by rw [HK.out.1, HK.out.2]) fun k k1 k2 => ?_)
      have := HE.out k (by rw [HK.out.2] at k2; omega)
      rwa [ix_eq k1, ix_eq k2] at this
end Go.Proofs.Ytodnkahnbidgaaa
namespace Go.Proofs.Ytodnkahnbidgaaa
open Go.RowKit
open Fm

theorem place_at {n m : Nat} {A : List (List Int)} (hp : Places n m A) {t : Nat} (h : t < A.length) : ∃ i j, i < n ∧ j < m ∧ rowAt A t = pairI i j ∧ ix (A.map (placeR m)) t = ((i * m + j : Nat) : Int) ∧ (i * m + j) / m = i ∧ (i * m + j) % m = j ∧ i * m + j < n * m := by
  obtain ⟨i, j, hi, hj, e⟩ := hp (rowAt A t) (rowAt_mem h)
  refine ⟨i, j, hi, hj, e, ?_, ?_, ?_, ?_⟩
  · rw [ix_eq (by simpa using h)]
    rw [rowAt_eq h] at e
    simp only [List.getElem_map, e]
    show (i : Int) * m + j = _
    push_cast; rfl
  · rw [Nat.add_comm, Nat.add_mul_div_right _ _ (by omega), Nat.div_eq_of_lt hj]; omega
  · rw [Nat.add_comm, Nat.add_mul_mod_self_right, Nat.mod_eq_of_lt hj]
  · have h1 : (i + 1) * m ≤ n * m := Nat.mul_le_mul_right m hi
    rw [Nat.add_mul, Nat.one_mul] at h1
    omega
set_option maxRecDepth 100000 in
set_option maxHeartbeats 3200000 in
theorem vValue_c (v1 v2 : Value) (x A : List (List Int)) (n m : Nat) (w : World) (h1 : Grid w v1 x) (h2 : Ints w v2 (A.map (placeR m))) (rx : Rc n m x) (hp : Places n m A) (hA : A.length ≤ 64) (hd : 1 ≤ n ∧ n ≤ 8 ∧ 1 ≤ m ∧ m ≤ 8) (hx : ∀ i j, i < n → j < m → 0 ≤ elOf x i j ∧ elOf x i j ≤ 1000) :
    Calls Try.prog 51 #[v1, v2] w fun e w' => e = .returned (.int .i64 (sumR x A)) ∧ Drew w w' := by
  obtain ⟨ax, cx, rfl, x1, x2, x3⟩ := h1
  have GX := Lib.hid x3; clear x3
  obtain ⟨ac, cc, rfl, y1, y2, y3⟩ := h2
  have GC := Lib.hid y3; clear y3
  obtain ⟨K, hK⟩ : ∃ K, A.length = K := ⟨_, rfl⟩
  rw [List.length_map] at y1 ⊢
  rw [hK] at y1 hA ⊢
  have HK := Lib.hid hK; clear hK
  rw [rx.len] at x1 ⊢
  have RX := Lib.hid rx; clear rx
  have HP := Lib.hid hp; clear hp
  have HXB := Lib.hid hx; clear hx
  obtain ⟨bp, op, ar0, cr0, rfl, hp0, r1, r2, r3⟩ := GX.out.at0 (by rw [RX.out.len]; omega)
  clear r3 r2
  rw [RX.out.row 0 (by omega)] at hp0 r1
  have n0 : (0 : Int) < (n : Int) := by omega
  have n1 : 0 < n := by omega
  go_enter Try.func51, Try.ntmps51
  go_wp2_with fail
  go_loopw [5, 10] (fun s i wr => ∃ t : Nat, t ≤ K ∧ s = .int .i64 (sumR x (A.take t)) ∧ i = .int .i64 t ∧ Drew w wr) (fun _ i _ => K - (intOf i).toNat)
  case atStart => exact ⟨0, Nat.zero_le _, rfl, rfl, Drew.refl w⟩
  case round =>
    obtain ⟨t, ht, rfl, rfl, hx⟩ := hrel
    obtain ⟨wo, rfl⟩ : ∃ wo : World, wo = wr := ⟨_, rfl⟩
    have HD := Lib.hid hx; clear hx
    by_cases hlt : t < K
    · have htA : t < A.length := by rw [HK.out]; exact hlt
      obtain ⟨i, j, hi, hj, er, ek, ed, em, ekn⟩ := place_at HP.out htA
      obtain ⟨k, hk⟩ : ∃ k, i * m + j = k := ⟨_, rfl⟩
      rw [hk] at ek ed em ekn
      obtain ⟨b2, o2, rfl, hcc⟩ := (GC.out.ext HD.out.ext) t (by rw [List.length_map]; exact htA)
      rw [ek] at hcc
      obtain ⟨bx, ox, a3, c3, e9, hx0, s4, s5, s6⟩ := (GX.out.ext HD.out.ext).at_ (k := i) (by rw [RX.out.len]; exact hi)
      obtain ⟨rfl, rfl⟩ : bp = bx ∧ op = ox := by simpa using e9
      clear e9
      rw [RX.out.row i hi] at hx0 s4
      obtain ⟨b5, o5, rfl, hx1⟩ := s6 j (by rw [RX.out.row i hi]; exact hj)
      clear s6 s5
      rw [show ix (rowAt x i) j = elOf x i j from rfl] at hx1
      have hb := HXB.out i j hi hj
      have hS := sumR_bound (x := x) (L := A.take t) HXB.out (fun r hr => HP.out r (List.mem_of_mem_take hr))
      have hlt2 : (A.take t).length ≤ 64 := by rw [List.length_take]; omega
      have HT := Lib.hid (show sumR x (A.take (t + 1)) = sumR x (A.take t) + elOf x i j by rw [take_succ_row htA, er, sumR_snoc])
      obtain ⟨S, hSe⟩ : ∃ S, sumR x (A.take t) = S := ⟨_, rfl⟩
      rw [hSe] at hS HT ⊢
      obtain ⟨E, hE⟩ : ∃ E, elOf x i j = E := ⟨_, rfl⟩
      rw [hE] at hx1 hb HT
      have hw : IntKind.i64.wrap (S + E) = S + E := IntWalk.i64_in _ (by omega)
      have g1 : (k : Int) / (m : Int) = (i : Int) := by rw [← ed]; simp
      have g2 : (k : Int).tdiv (m : Int) = (i : Int) := by rw [Int.tdiv_eq_ediv_of_nonneg (by omega)]; exact g1
      have g3 : (k : Int) % (m : Int) = (j : Int) := by rw [← em]; simp
      have g4 : (k : Int).tmod (m : Int) = (j : Int) := by rw [Int.tmod_eq_emod_of_nonneg (by omega)]; exact g3
      have g5 : IntKind.i64.wrap (i : Int) = (i : Int) := IntWalk.i64_in _ (by omega)
      have g9 : IntKind.i64.wrap (j : Int) = (j : Int) := IntWalk.i64_in _ (by omega)
      have g6 : (m : Int) ≠ 0 := by omega
      have g7 : ¬ m = 0 := by omega
      have g8 : 0 < m := by omega
      have g10 : (i : Int) < (n : Int) := by omega
      have g11 : (j : Int) < (m : Int) := by omega
      have hp1 := HD.out.cell hp0
      clear hSe hE er htA hS hlt2 hb hk ed em ek ekn
      go_upto_region 5 with fail
      go_quiet (fail)
      go_wp2_with fail
      go_roundw
      case rel => exact ⟨t + 1, by omega, by rw [HT.out], by go_num, HD.out.drewN _⟩
      case measure => simp [intOf]; omega
    · have hke : t = K := by omega
      subst hke
      have HT := Lib.hid (show A.take t = A by rw [List.take_of_length_le (by rw [HK.out]; exact Nat.le_refl _)])
      rw [HT.out]
      go_wp2
      go_ret
      exact ⟨rfl, HD.out⟩
end Go.Proofs.Ytodnkahnbidgaaa
namespace Go.Proofs.Ytodnkahnbidgaaa
open Go.RowKit
open Fm

/-- the best mask of a size among the first -/
noncomputable def bst (x S : List (List Int)) (safe : Nat → Bool) (s : Nat) : Nat → Option Nat
  | 0 => none
  | k + 1 => if (selM S k).length = s then
      (match bst x S safe s k with
       | none => if safe k = true then some k else none
       | some b => if cmpL (keyM x S k) (keyM x S b) < 0 ∧ safe k = true then some k else some b)
    else bst x S safe s k
section
variable {x S : List (List Int)} {safe : Nat → Bool} {s k : Nat}
theorem bst_off (h : (selM S k).length ≠ s) : bst x S safe s (k + 1) = bst x S safe s k := by simp [bst, h]
theorem bst_first (h : (selM S k).length = s) (hb : bst x S safe s k = none) : bst x S safe s (k + 1) = if safe k = true then some k else none := by simp [bst, h, hb]
theorem bst_next {b : Nat} (h : (selM S k).length = s) (hb : bst x S safe s k = some b) : bst x S safe s (k + 1) = if cmpL (keyM x S k) (keyM x S b) < 0 ∧ safe k = true then some k else some b := by simp [bst, h, hb]
/-- none of this size -/
theorem bst_none (h : bst x S safe s k = none) : ∀ c, c < k → (selM S c).length = s → safe c = false := by
  induction k with
  | zero => intro c hc; omega
  | succ k ih =>
    by_cases hl : (selM S k).length = s
    · cases hb : bst x S safe s k with
      | none =>
        rw [bst_first hl hb] at h
        intro c hc hs
        by_cases e : c = k
        · subst e
          cases h2 : safe c
          · rfl
          · rw [h2] at h; simp at h
        · exact ih hb c (by omega) hs
      | some b =>
        rw [bst_next hl hb] at h
        split at h <;> cases h
    · rw [bst_off hl] at h
      intro c hc hs
      by_cases e : c = k
      · subst e; exact absurd hs hl
      · exact ih h c (by omega) hs
theorem bst_some {b n m N : Nat} (hr : Rc n m S) (hN : N = 2 ^ (freeL S).length) (hk : k ≤ N) (h : bst x S safe s k = some b) : b < k ∧ (selM S b).length = s ∧ safe b = true ∧ ∀ c, c < k → (selM S c).length = s → safe c = true → c = b ∨ cmpL (keyM x S b) (keyM x S c) < 0 := by
  induction k generalizing b with
  | zero => cases h
  | succ k ih =>
    by_cases hl : (selM S k).length = s
    · cases hb : bst x S safe s k with
      | none =>
        rw [bst_first hl hb] at h
        split at h
        · rename_i h2
          simp only [Option.some.injEq] at h
          subst h
          refine ⟨by omega, hl, h2, fun c hc hs hsf => ?_⟩
          by_cases e : c = k
          · exact .inl e
          · have := bst_none hb c (by omega) hs
            rw [hsf] at this; cases this
        · cases h
      | some b' =>
        obtain ⟨i1, i2, i3, i4⟩ := ih (by omega) hb
        rw [bst_next hl hb] at h
        split at h
        · rename_i h2
          simp only [Option.some.injEq] at h
          subst h
          refine ⟨by omega, hl, h2.2, fun c hc hs hsf => ?_⟩
          by_cases e : c = k
          · exact .inl e
          · rcases i4 c (by omega) hs hsf with e2 | e2
            · subst e2; exact .inr h2.1
            · exact .inr (cmpL_trans h2.1 e2)
        · rename_i h2
          simp only [Option.some.injEq] at h
          subst h
          refine ⟨by omega, i2, i3, fun c hc hs hsf => ?_⟩
          by_cases e : c = k
          · subst e
            have h3 : ¬ cmpL (keyM x S c) (keyM x S b') < 0 := fun h4 => h2 ⟨h4, hsf⟩
            by_cases h5 : cmpL (keyM x S c) (keyM x S b') = 0
            · exact .inl (keyM_inj hr (by rw [← hN]; omega) (by rw [← hN]; omega) h5)
            · rw [cmpL_neg]
              rw [cmpL_neg] at h3 h5
              right
              rw [cmpL_neg]
              omega
          · exact i4 c (by omega) hs hsf
    · rw [bst_off hl] at h
      obtain ⟨i1, i2, i3, i4⟩ := ih (by omega) h
      refine ⟨by omega, i2, i3, fun c hc hs hsf => ?_⟩
      by_cases e : c = k
      · subst e; exact absurd hs hl
      · exact i4 c (by omega) hs hsf
theorem key_len {a b : Nat} (h : (selM S a).length < (selM S b).length) : cmpL (keyM x S a) (keyM x S b) < 0 := by
  unfold keyM keyL
  simp only [cmpL]
  have : cmpI ((selM S a).length : Int) ((selM S b).length : Int) = -1 := by unfold cmpI; rw [if_pos (by omega)]
  rw [this, if_neg (by omega)]
  omega
/-- among those of one size: by value, then by place -/
theorem key_same {n m a b : Nat} (hr : Rc n m S) (h : (selM S a).length = (selM S b).length) : cmpL (keyM x S a) (keyM x S b) = if cmpI (sumR x (selM S a)) (sumR x (selM S b)) = 0 then cmpL ((selM S a).map (placeR m)) ((selM S b).map (placeR m)) else cmpI (sumR x (selM S a)) (sumR x (selM S b)) := by
  unfold keyM keyL
  simp only [cmpL]
  rw [if_pos (by rw [h]; exact cmpI_self _), cmpL_place (sel_snd hr a) (sel_snd hr b)]
/-- the first size that has one has the least -/
theorem bst_least {b n m N : Nat} (hr : Rc n m S) (hN : N = 2 ^ (freeL S).length) (h0 : ∀ c, c < N → (selM S c).length < s → safe c = false) (h : bst x S safe s N = some b) : leastO N safe (keyM x S) = some b := by
  obtain ⟨i1, i2, i3, i4⟩ := bst_some hr hN (Nat.le_refl _) h
  refine leastO_some ⟨i1, i3, fun c hc hs => ?_⟩
  rcases Nat.lt_trichotomy (selM S c).length s with e | e | e
  · have := h0 c hc e
    rw [hs] at this; cases this
  · exact i4 c hc e hs
  · exact .inr (key_len (by omega))
theorem bst_nothing {N : Nat} (h0 : ∀ c, c < N → (selM S c).length < (freeL S).length + 1 → safe c = false) : leastO N safe (keyM x S) = none :=
  leastO_none fun c hc => h0 c hc (by have := cellsM_len (freeL S) c; unfold selM; omega)
/-- one size further -/
theorem bst_size {N : Nat} (h0 : ∀ c, c < N → (selM S c).length < s → safe c = false) (h : bst x S safe s N = none) : ∀ c, c < N → (selM S c).length < s + 1 → safe c = false := by
  intro c hc hl
  by_cases e : (selM S c).length = s
  · exact bst_none h c hc e
  · exact h0 c hc (by omega)
end
end Go.Proofs.Ytodnkahnbidgaaa
namespace Go.Proofs.Ytodnkahnbidgaaa
open Go.RowKit
open Fm

theorem pick_places {m : Nat} {S : List (List Int)} (k : Nat) : pickN ((freeL S).map (placeR m)) (bitsI k (freeL S).length) = (selM S k).map (placeR m) := by
  unfold pickN bitsI selM cellsM
  rw [List.map_map, List.map_map]
  apply List.map_congr_left
  intro i hi
  have h := (bitsTo_mem.1 hi).1
  show ix ((freeL S).map (placeR m)) ((i : Int)).toNat = placeR m (rowAt (freeL S) i)
  rw [Int.toNat_natCast, ix_eq (by simpa using h), rowAt_eq h]
  simp
theorem cellsQ_len {f : Nat → Nat → Int → Bool} {P : List (List Int)} {n m : Nat} (hr : Rc n m P) (hm : 0 < m) : ∀ q, q ≤ n * m → (cellsQ f P m q).length ≤ q
  | 0, _ => by rw [cellsQ_zero]; exact Nat.le_refl _
  | q + 1, h => by
    have ih := cellsQ_len (f := f) hr hm q (by omega)
    rw [cellsQ_succ hr hm (by omega)]
    split
    · rw [List.length_append, List.length_singleton]; omega
    · omega
theorem quot_zero {k F : Nat} (h : k < 2 ^ F) : k / 2 ^ F = 0 := Nat.div_eq_of_lt h

/-- the best one so far, as it lies -/
def BestS (S : List (List Int)) (m : Nat) (w : World) (v : Value) (f : Bool) : Option Nat → Prop
  | none => v = .slice none 0 0 ∧ f = false
  | some b => Ints w v ((selM S b).map (placeR m)) ∧ f = true
theorem BestS.ext {S : List (List Int)} {m : Nat} {w w' : World} {v : Value} {f : Bool} {o : Option Nat} (h : BestS S m w v f o) (u : Ext w w') : BestS S m w' v f o := by
  cases o with
  | none => exact h
  | some b => exact ⟨h.1.ext u, h.2⟩

set_option maxRecDepth 100000 in
set_option maxHeartbeats 12800000 in
theorem specLp_c (v1 : Value) (x : List (List Int)) (v2 : Value) (S : List (List Int)) (down up : Int) (w : World) (h1 : Grid w v1 x) (h2 : Grid w v2 S) :
    Calls Try.prog 18 #[v1, v2, .int .i64 down, .int .i64 up] w fun e w' => ∃ v', e = .returned (.tuple #[v', .bool (lpB x S down up)]) ∧ PlN w.heap.size w'.heap.size w' v' (lpV x S down up) ∧ Ext w w' := by
  have H1 := Lib.hid h1
  have H2 := Lib.hid h2
  have u0 := (Ext.refl w).alloc (.cells #[.slice none 0 0, .int .i64 0, .int .i64 0] 30)
  have b0 := Box.new w 30 #[.slice none 0 0, .int .i64 0, .int .i64 0] rfl
  have nothing : ∀ (w' : World), PlN w.heap.size w'.heap.size w' (.agg #[.slice none 0 0, .int .i64 0, .int .i64 0]) ⟨[], 0, 0⟩ := fun w' => ⟨_, _, _, [], rfl, OwnG.nil, rfl, rfl⟩
  have off : lpO x S down up = none → lpB x S down up = false ∧ lpV x S down up = ⟨[], 0, 0⟩ := fun e => by
    unfold lpB lpV
    rw [e]; exact ⟨rfl, rfl⟩
  cases hp : pubB x S
  · have hO := off (by simp [lpO, cpB, hp])
    rw [hO.1, hO.2]; clear hO off
    have HP := Lib.hid (show (gridB 8 1000 x && patB x S) = false from hp); clear hp
    go_enter Try.func18, Try.ntmps18
    go_wp2_with fail
    refine (qPattern_b false _ _ x S _ HP.out (H1.out.ext u0) (H2.out.ext u0)).mono ?_
    rintro e w1 ⟨rfl, d1⟩
    have b1 := b0.ext d1.ext
    have u1 := u0.trans d1.ext
    have q0 := b1.cell 0 (by simp)
    have q1 := b1.cell 1 (by simp)
    have q2 := b1.cell 2 (by simp)
    have f0 := b1.free 0
    have f1 := b1.free 1
    have f2 := b1.free 2
    go_wp2
    refine bodyPost_ret (v := .tuple #[.agg #[.slice none 0 0, .int .i64 0, .int .i64 0], .bool false]) (by simp [results, Try.results18, go_sem, q0, q1, q2]) rfl ⟨_, rfl, nothing _, ?_⟩
    first | exact u1 | exact ((u1.setCell _ (Nat.le_refl _)).setCell _ (Nat.le_refl _)).setCell _ (Nat.le_refl _)
  cases hl : levB down up
  · have hO := off (by simp [lpO, cpB, hl])
    rw [hO.1, hO.2]; clear hO off
    have HP := Lib.hid (show (gridB 8 1000 x && patB x S) = true from hp); clear hp
    have HL := Lib.hid hl; clear hl
    go_enter Try.func18, Try.ntmps18
    go_wp2_with fail
    refine (qPattern_b true _ _ x S _ HP.out (H1.out.ext u0) (H2.out.ext u0)).mono ?_
    rintro e w1 ⟨rfl, d1⟩
    have b1 := b0.ext d1.ext
    have u1 := u0.trans d1.ext
    have q0 := b1.cell 0 (by simp)
    have q1 := b1.cell 1 (by simp)
    have q2 := b1.cell 2 (by simp)
    have f0 := b1.free 0
    have f1 := b1.free 1
    have f2 := b1.free 2
    go_wp2_with fail
    refine (vLevels_b false down up _ HL.out).mono ?_
    rintro e w2 ⟨rfl, rfl⟩
    go_wp2
    refine bodyPost_ret (v := .tuple #[.agg #[.slice none 0 0, .int .i64 0, .int .i64 0], .bool false]) (by simp [results, Try.results18, go_sem, q0, q1, q2]) rfl ⟨_, rfl, nothing _, ?_⟩
    first | exact u1 | exact ((u1.setCell _ (Nat.le_refl _)).setCell _ (Nat.le_refl _)).setCell _ (Nat.le_refl _)
  have HOFF := Lib.hid off; clear off
  have HIN := Lib.hid (inp_self hp)
  have hd := atk_dims hp
  have HRX := Lib.hid (pub_rc hp)
  have HRS := Lib.hid (pat_rc hp)
  have HXB := Lib.hid (fun i j (hi : i < x.length) (hj : j < (rowAt x 0).length) => pub_el hp hi hj)
  have H01 := Lib.hid (show ∀ i j, i < x.length → j < (rowAt x 0).length → elOf S i j = 0 ∨ elOf S i j = 1 from fun i j hi hj => pat01 hp hi hj)
  have HCP := Lib.hid (show cpB x S down up = true by simp [cpB, hp, hl])
  have HP := Lib.hid (show (gridB 8 1000 x && patB x S) = true from hp); clear hp
  have HL := Lib.hid hl; clear hl
  obtain ⟨ax, cx, rfl, x1, x2, x3⟩ := h1
  have GX := Lib.hid x3; clear x3
  obtain ⟨aS, cS, rfl, s1, s2, s3⟩ := h2
  have GS := Lib.hid s3; clear s3
  obtain ⟨n, hn⟩ : ∃ n, x.length = n := ⟨_, rfl⟩
  obtain ⟨m, hm⟩ : ∃ m, (rowAt x 0).length = m := ⟨_, rfl⟩
  rw [hn] at HRX HRS hd x1 H1 HXB H01 ⊢
  rw [hm] at HRX HRS hd HXB H01
  rw [HRS.out.len] at s1 H2 ⊢
  have HN := Lib.hid hn; clear hn
  have HM := Lib.hid hm; clear hm
  obtain ⟨bp, op, ar0, cr0, rfl, hp0, r1, r2, r3⟩ := GX.out.at0 (by rw [HRX.out.len]; omega)
  clear r3 r2
  rw [HRX.out.row 0 (by omega)] at hp0 r1
  have n0 : (0 : Int) < (n : Int) := by omega
  have n1 : 0 < n := by omega
  have hnm : n * m ≤ 64 := Nat.mul_le_mul (show n ≤ 8 by omega) (show m ≤ 8 by omega)
  have wnm : IntKind.i64.wrap ((n : Int) * (m : Int)) = ((n * m : Nat) : Int) := by
    rw [show (n : Int) * (m : Int) = ((n * m : Nat) : Int) by push_cast; rfl]
    exact IntWalk.i64_in _ (by omega)
  have HSZ := Lib.hid (show (w.alloc (.cells #[.slice none 0 0, .int .i64 0, .int .i64 0] 30)).heap.size = w.heap.size + 1 by simp)
  have HB0 := Lib.hid b0; clear b0
  obtain ⟨wa, hwa⟩ : ∃ wa, wa = w.alloc (.cells #[.slice none 0 0, .int .i64 0, .int .i64 0] 30) := ⟨_, rfl⟩
  rw [← hwa] at HB0 u0 HSZ
  go_enter Try.func18, Try.ntmps18
  go_wp2_with fail
  rw [← hwa]
  have HWA := Lib.hid hwa; clear hwa
  refine (qPattern_b true _ _ x S _ HP.out (H1.out.ext u0) (H2.out.ext u0)).mono ?_
  rintro e w1 ⟨rfl, d1⟩
  have u1 := d1.ext; clear d1
  go_wp2_with fail
  refine (vLevels_b true down up _ HL.out).mono ?_
  rintro e w2 ⟨rfl, rfl⟩
  have UW := Lib.hid (u0.trans u1)
  obtain ⟨NM, hNM⟩ : ∃ q, n * m = q := ⟨_, rfl⟩
  rw [hNM] at hnm wnm
  have HNM := Lib.hid hNM; clear hNM
  go_wp2_with fail
  go_loopw [10, 11] (fun r i wr => ∃ q : Nat, q ≤ NM ∧ i = .int .i64 q ∧ IRow w2.heap.size wr r ((cellsQ zeroF S m q).map (placeR m)) ∧ Ext w2 wr) (fun _ i _ => NM - (intOf i).toNat)
  case atStart => exact ⟨0, Nat.zero_le _, rfl, by rw [cellsQ_zero]; exact IRow.nil, Ext.refl w2⟩
  case round =>
    -- BEGIN cut loop1
    obtain ⟨q, hq, rfl, hr, hx⟩ := hrel
    obtain ⟨wo, rfl⟩ : ∃ wo : World, wo = wr := ⟨_, rfl⟩
    have HR := Lib.hid hr; clear hr
    have hp1 := Ext.cell (UW.out.trans hx) hp0
    by_cases hlt : q < NM
    · obtain ⟨a, ha⟩ : ∃ a, q / m = a := ⟨_, rfl⟩
      obtain ⟨d, hdd⟩ : ∃ d, q % m = d := ⟨_, rfl⟩
      have han : a < n := by rw [← ha]; exact Nat.div_lt_of_lt_mul (by rw [Nat.mul_comm, HNM.out]; exact hlt)
      have hdm : d < m := by rw [← hdd]; exact Nat.mod_lt _ (by omega)
      have HCQ := Lib.hid (cellsQ_succ (f := zeroF) HRS.out (show 0 < m by omega) (show q < n * m by rw [HNM.out]; exact hlt))
      rw [ha, hdd] at HCQ
      have HPQ := Lib.hid (show placeR m (pairI a d) = (q : Int) by
        show (a : Int) * m + d = q
        have := Nat.div_add_mod q m
        rw [ha, hdd, Nat.mul_comm] at this
        rw [← this]; push_cast; rfl)
      have g1 : (q : Int) / (m : Int) = (a : Int) := by rw [← ha]; simp
      have g2 : (q : Int).tdiv (m : Int) = (a : Int) := by rw [Int.tdiv_eq_ediv_of_nonneg (by omega)]; exact g1
      have g3 : (q : Int) % (m : Int) = (d : Int) := by rw [← hdd]; simp
      have g4 : (q : Int).tmod (m : Int) = (d : Int) := by rw [Int.tmod_eq_emod_of_nonneg (by omega)]; exact g3
      have g5 : IntKind.i64.wrap (a : Int) = (a : Int) := IntWalk.i64_in _ (by omega)
      have g9 : IntKind.i64.wrap (d : Int) = (d : Int) := IntWalk.i64_in _ (by omega)
      have g6 : (m : Int) ≠ 0 := by omega
      have g7 : ¬ m = 0 := by omega
      have g8 : 0 < m := by omega
      have g10 : (a : Int) < (n : Int) := by omega
      have g11 : (d : Int) < (m : Int) := by omega
      have g12 : (q : Int) < (NM : Int) := by omega
      clear ha hdd
      obtain ⟨bs, os, a3, c3, e9, hx0, s4, s5, s6⟩ := (GS.out.ext (UW.out.trans hx)).at_ (k := a) (by rw [HRS.out.len]; exact han)
      subst e9
      rw [HRS.out.row a han] at hx0 s4
      obtain ⟨b5, o5, rfl, hx1⟩ := s6 d (by rw [HRS.out.row a han]; exact hdm)
      clear s6 s5
      rw [show ix (rowAt S a) d = elOf S a d from rfl] at hx1
      have hE := H01.out a d han hdm
      obtain ⟨E, hEe⟩ : ∃ E, elOf S a d = E := ⟨_, rfl⟩
      rw [hEe] at hx1 hE HCQ
      clear hEe
      rcases hE with rfl | rfl
      · have HC2 := Lib.hid (show (cellsQ zeroF S m (q + 1)).map (placeR m) = (cellsQ zeroF S m q).map (placeR m) ++ [(q : Int)] by
          rw [HCQ.out, if_pos (by simp [zeroF]), List.map_append, ← HPQ.out]; rfl)
        have e01 : ((0 : Int) == 0) = true := by decide
        have HLQ := Lib.hid (show ((cellsQ zeroF S m q).map (placeR m)).length ≤ q by rw [List.length_map]; exact cellsQ_len HRS.out (by omega) q (by rw [HNM.out]; exact hq))
        clear HCQ HPQ
        obtain ⟨zs, hzs⟩ : ∃ zs, (cellsQ zeroF S m q).map (placeR m) = zs := ⟨_, rfl⟩
        rw [hzs] at HC2 HLQ HR
        clear hzs
        go_upto_region 7 with fail
        go_quiet (fail)
        have HX2 := Lib.hid (hx.drewN nq)
        have HR2 := Lib.hid (HR.out.ext ((Ext.refl wo).drewN nq))
        obtain ⟨wp, hwp⟩ : ∃ wp, wp = wo.drewN nq := ⟨_, rfl⟩
        rw [← hwp] at HX2 HR2 ⊢
        clear hp1 hx0 hx1 hx hwp HR
        have hown := HR2.out.ext ((Ext.refl wp).alloc (.cells #[.int .i64 q] 3))
        have HOWN := Lib.hid hown
        obtain ⟨L, hL⟩ : ∃ L, zs.length = L := ⟨_, rfl⟩
        have hL2 : L ≤ 4096 := by rw [← hL]; have := HLQ.out; omega
        unfold IRow at hown
        rw [hL] at hown
        have HOW2 := Lib.hid hown; clear hown
        have HL := Lib.hid hL; clear hL
        have hs := HX2.out.size
        go_wp2_with (at_builtin; go_loud (refine app1 _ rfl _ _ 36 3 rfl (.int .i64 0) 8 Try.underlying36 info_int rfl w2.heap.size _ L _ rfl HOW2.out wp.heap.size 1 3 (.int .i64 q) rfl (Box.new _ _ _ rfl) rfl (by omega) (by omega) (by simp; omega) ?_))
        intro g cp w3 hown3 hgrow hat hlt3
        have HX3 := Lib.hid (HOWN.out.grew (HX2.out.alloc _) (Nat.le_refl _) hgrow)
        have HO3 := Lib.hid hown3; clear hown3 hgrow
        go_wp2
        go_roundw
        case rel => exact ⟨q + 1, by omega, by go_num, by rw [HC2.out]; exact IRow.push (by rw [HL.out]; exact HO3.out), HX3.out⟩
        case measure => simp [intOf]; omega
      · have HC2 := Lib.hid (show cellsQ zeroF S m (q + 1) = cellsQ zeroF S m q by rw [HCQ.out, if_neg (by simp [zeroF])])
        have e01 : ((1 : Int) == 0) = false := by decide
        clear HCQ HPQ
        go_upto_region 7 with fail
        go_quiet (fail)
        go_wp2_with fail
        go_roundw
        case rel => exact ⟨q + 1, by omega, by go_num, by rw [HC2.out]; exact HR.out.ext ((Ext.refl wo).drewN _), hx.drewN _⟩
        case measure => simp [intOf]; omega
    · have hqe : q = NM := by omega
      subst hqe
      have HAL := Lib.hid (show cellsQ zeroF S m (n * m) = freeL S from cellsQ_all HRS.out (by omega))
      rw [HNM.out] at HAL
      rw [HAL.out] at HR
      have g12 : ¬ ((q : Int) < (q : Int)) := by omega
      clear HNM HAL
      have hoz := HR.out.own (Nat.le_refl _)
      have HFI := Lib.hid hoz.ints
      obtain ⟨af, cf, rfl, f1, f2, f3⟩ := hoz
      clear f3 HR
      have HU := Lib.hid (UW.out.trans hx)
      have HAX := Lib.hid (u1.trans hx)
      clear hx
      rw [List.length_map] at f1 HFI ⊢
      obtain ⟨F, hF⟩ : ∃ F, (freeL S).length = F := ⟨_, rfl⟩
      rw [hF] at f1 HFI ⊢
      by_cases hF10 : F ≤ 10
      · have hF10' : ¬ ((10 : Int) < (F : Int)) := by omega
        have HFF := Lib.hid hF; clear hF
        have HO := Lib.hid (show lpO x S down up = leastO (2 ^ F) (safeM x S down up) (keyM x S) by unfold lpO; rw [if_pos ⟨HCP.out, by rw [HFF.out]; exact hF10⟩, HFF.out])
        obtain ⟨N, hN⟩ : ∃ N, 2 ^ F = N := ⟨_, rfl⟩
        have hN10 : N ≤ 1024 := by rw [← hN]; exact Nat.pow_le_pow_right (show 0 < 2 by omega) hF10
        rw [hN] at HO
        have HNN := Lib.hid (show N = 2 ^ (freeL S).length by rw [HFF.out, hN])
        have hNI : (2 : Int) ^ F = (N : Int) := by rw [← hN]; push_cast; rfl
        have HN2 := Lib.hid hN; clear hN
        go_wp2_with fail
        go_loopw [12] (fun s wr => ∃ k : Nat, k ≤ F + 1 ∧ s = .int .i64 k ∧ Ext wo wr ∧ ∀ c, c < N → (selM S c).length < k → safeM x S down up c = false) (fun s _ => F + 1 - (intOf s).toNat)
        case atStart => exact ⟨0, by omega, rfl, Ext.refl wo, fun c _ h => by omega⟩
        case round =>
          -- BEGIN cut loop2
          obtain ⟨k, hk, rfl, hx, h0⟩ := hrel
          obtain ⟨wk, rfl⟩ : ∃ wk : World, wk = wr := ⟨_, rfl⟩
          have HH0 := Lib.hid h0; clear h0
          by_cases hkF : k ≤ F
          · have hkF' : (k : Int) ≤ (F : Int) := by omega
            go_wp2_with fail
            go_loopw [13, 14, 15] (fun v f i wr => ∃ (M : Nat) (fb : Bool), M ≤ N ∧ i = .int .i64 M ∧ f = .bool fb ∧ BestS S m wr v fb (bst x S (safeM x S down up) k M) ∧ Ext wo wr) (fun _ _ i _ => N - (intOf i).toNat)
            case atStart => exact ⟨0, false, Nat.zero_le _, rfl, rfl, ⟨rfl, rfl⟩, hx⟩
            case round =>
              obtain ⟨M, fb, hM, rfl, rfl, hb, hx3⟩ := hrel
              obtain ⟨wi, rfl⟩ : ∃ wi : World, wi = wr := ⟨_, rfl⟩
              have HB := Lib.hid hb; clear hb
              by_cases hMN : M < N
              · have hMN' : (M : Int) < (N : Int) := by omega
                go_wp2_with fail
                refine (iBits_c M F _ (by omega) (by omega) (quot_zero (by rw [HN2.out]; exact hMN))).mono ?_
                rintro e w4 ⟨vb, rfl, ob, u4⟩
                have HBI := Lib.hid ob.ints; clear ob
                have HX4 := Lib.hid (hx3.trans u4)
                have HB4 := Lib.hid (HB.out.ext u4)
                clear u4
                go_wp2_with fail
                refine (sPickN_c _ _ _ _ _ (HFI.out.ext HX4.out) HBI.out (fun t ht => by
                  have hm2 : ix (bitsI M F) t ∈ bitsI M F := by rw [ix_eq ht]; exact List.getElem_mem ht
                  obtain ⟨i, hi, ei⟩ := List.mem_map.1 hm2
                  exact ⟨i, ei.symm, by rw [List.length_map, HFF.out]; exact (bitsTo_mem.1 hi).1⟩) (by have := bitsI_len M F; omega)).mono ?_
                rintro e w5 ⟨vs, rfl, os, u5⟩
                have hpk := pick_places (m := m) (S := S) M
                rw [HFF.out] at hpk
                rw [hpk] at os
                have HC5 := Lib.hid os.ints
                obtain ⟨ac, cc, rfl, c1, c2, c3⟩ := os.ints
                clear c3 os hpk
                rw [List.length_map] at c1 HC5 ⊢
                have HX5 := Lib.hid (HX4.out.trans u5)
                have HB5 := Lib.hid (HB4.out.ext u5)
                have hu5 := HU.out.trans HX5.out
                have HA5 := Lib.hid (HAX.out.trans HX5.out)
                clear u5 HB4 HX4 HBI HB
                have hcl : (selM S M).length ≤ 64 := by have h9 := cellsM_len (freeL S) M; rw [HFF.out] at h9; unfold selM; omega
                have HXG := Lib.hid (H1.out.ext hu5)
                have HSG := Lib.hid (H2.out.ext hu5)
                have HU5 := Lib.hid hu5; clear hu5
                by_cases hsz : (selM S M).length = k
                · have hkk : ((k : Int) != (k : Int)) = false := by simp
                  have HSZK := Lib.hid hsz
                  rw [hsz] at hcl c1 HC5 ⊢
                  clear hsz
                  cases hbs : bst x S (safeM x S down up) k M with
                  | none =>
                    rw [hbs] at HB5
                    obtain ⟨rfl, rfl⟩ := HB5.out
                    have HBE := Lib.hid (show ∀ w', Ext w5 w' → BestS S m w' (.slice none 0 0) false none from fun _ _ => ⟨rfl, rfl⟩)
                    have HS1 := Lib.hid (show safeM x S down up M = true → bst x S (safeM x S down up) k (M + 1) = some M from fun h => by rw [bst_first HSZK.out hbs, if_pos h])
                    have HS0 := Lib.hid (show safeM x S down up M = false → bst x S (safeM x S down up) k (M + 1) = none from fun h => by rw [bst_first HSZK.out hbs, if_neg (by rw [h]; simp)])
                    clear hbs HB5
                    have EZ := Lib.hid (Ext.refl w5)
                    go_wp2_with fail
                    refine (vWith_c _ _ S ((selM S M).map (placeR m)) n m _ (HSG.out.ext EZ.out) (HC5.out.ext EZ.out) HRS.out hd (by rw [List.length_map, HSZK.out]; omega) (fun t ht => by
                      rw [List.length_map] at ht
                      obtain ⟨i, j, _, _, _, e, _, _, h9⟩ := place_at (sel_places HRS.out M) ht
                      exact ⟨_, e, h9⟩)).mono ?_
                    rintro e w6 ⟨v6, rv6, rfl, o6, u6⟩
                    rw [List.length_map, setTo_cells (sel_places HRS.out M) _ (Nat.le_refl _), List.take_length] at o6
                    have HO6 := Lib.hid o6.grid; clear o6
                    have HX6 := Lib.hid (EZ.out.trans u6); clear u6
                    obtain ⟨sb, hsb⟩ : ∃ sb, safeM x S down up M = sb := ⟨_, rfl⟩
                    have HSB := Lib.hid hsb; clear hsb
                    go_wp2_with fail
                    refine (vSafe_b sb x (setCells S (selM S M)) S _ _ _ down up _ HSB.out (inp_setCells _ HIN.out (by rw [HN.out, HM.out]; exact sel_places HRS.out M)) HL.out (HXG.out.ext HX6.out) HO6.out (HSG.out.ext HX6.out)).mono ?_
                    rintro e w7 ⟨rfl, u7⟩
                    have HX7 := Lib.hid (HX6.out.trans u7); clear u7
                    cases sb
                    · go_wp2_with fail
                      go_roundw
                      case rel => exact ⟨M + 1, _, by omega, by go_num, rfl, by rw [HS0.out HSB.out]; exact HBE.out _ HX7.out, HX5.out.trans HX7.out⟩
                      case measure => simp [intOf]; omega
                    · go_wp2_with fail
                      go_roundw
                      case rel => exact ⟨M + 1, true, by omega, by go_num, rfl, by rw [HS1.out HSB.out]; exact ⟨HC5.out.ext HX7.out, rfl⟩, HX5.out.trans HX7.out⟩
                      case measure => simp [intOf]; omega
                  | some b =>
                    rw [hbs] at HB5
                    obtain ⟨hbi, rfl⟩ := HB5.out
                    have HBE := Lib.hid (show ∀ w', Ext w5 w' → BestS S m w' _ true (some b) from fun w' u => ⟨hbi.ext u, rfl⟩)
                    obtain ⟨ab, cb, rfl, b1, b2, b3⟩ := HB5.out.1
                    clear b3
                    obtain ⟨i1, i2, i3, i4⟩ := bst_some HRS.out HNN.out hM hbs
                    clear i4
                    have HBL := Lib.hid i2
                    rw [List.length_map, i2] at b1 hbi HBE ⊢
                    have HBB := Lib.hid hbi; clear hbi HB5
                    have HKS := Lib.hid (key_same (x := x) (a := M) (b := b) HRS.out (by rw [HSZK.out, i2]))
                    have HNX := Lib.hid (bst_next HSZK.out hbs); clear hbs
                    have HNE := Lib.hid (show cmpL (keyM x S M) (keyM x S b) ≠ 0 from fun h => by
                      have := keyM_inj HRS.out (by rw [← HNN.out]; exact hMN) (by rw [← HNN.out]; omega) h
                      omega)
                    clear i1 i2 i3
                    rcases cmpI_cases (sumR x (selM S M)) (sumR x (selM S b)) with ⟨hlt, hc⟩ | ⟨hlt, hc⟩ | ⟨hlt, hc⟩
                    · have hcc : cmpL (keyM x S M) (keyM x S b) < 0 := by rw [HKS.out, if_neg (by omega), hc]; omega
                      have HS1 := Lib.hid (show safeM x S down up M = true → bst x S (safeM x S down up) k (M + 1) = some M from fun h => by rw [HNX.out, if_pos ⟨hcc, h⟩])
                      have HS0 := Lib.hid (show safeM x S down up M = false → bst x S (safeM x S down up) k (M + 1) = some b from fun h => by rw [HNX.out, if_neg (by rw [h]; simp)])
                      clear hcc hc
                      have n1 : ¬ (sumR x (selM S b) < sumR x (selM S M)) := by omega
                      have n2 : decide (sumR x (selM S b) < sumR x (selM S M)) = false := by simp; omega
                      have n3 : (sumR x (selM S M) == sumR x (selM S b)) = false := by simp; omega
                      go_wp2_with fail
                      refine (vValue_c _ _ x (selM S M) n m _ (HXG.out.ext (Ext.refl w5)) (HC5.out.ext (Ext.refl w5)) HRX.out (sel_places HRS.out M) (by rw [HSZK.out]; exact hcl) hd HXB.out).mono ?_
                      rintro e wa1 ⟨rfl, dwa1⟩
                      go_wp2_with fail
                      refine (vValue_c _ _ x (selM S b) n m _ (HXG.out.ext dwa1.ext) (HBB.out.ext dwa1.ext) HRX.out (sel_places HRS.out b) (by rw [HBL.out]; exact hcl) hd HXB.out).mono ?_
                      rintro e wa2 ⟨rfl, dwa2⟩
                      go_wp2_with fail
                      refine (vValue_c _ _ x (selM S M) n m _ (HXG.out.ext (dwa1.trans dwa2).ext) (HC5.out.ext (dwa1.trans dwa2).ext) HRX.out (sel_places HRS.out M) (by rw [HSZK.out]; exact hcl) hd HXB.out).mono ?_
                      rintro e wa3 ⟨rfl, dwa3⟩
                      go_wp2_with fail
                      refine (vValue_c _ _ x (selM S b) n m _ (HXG.out.ext ((dwa1.trans dwa2).trans dwa3).ext) (HBB.out.ext ((dwa1.trans dwa2).trans dwa3).ext) HRX.out (sel_places HRS.out b) (by rw [HBL.out]; exact hcl) hd HXB.out).mono ?_
                      rintro e wa4 ⟨rfl, dwa4⟩
                      have EZ := Lib.hid (((dwa1.trans dwa2).trans dwa3).trans dwa4).ext
                      go_wp2_with fail
                      refine (vWith_c _ _ S ((selM S M).map (placeR m)) n m _ (HSG.out.ext EZ.out) (HC5.out.ext EZ.out) HRS.out hd (by rw [List.length_map, HSZK.out]; omega) (fun t ht => by
                        rw [List.length_map] at ht
                        obtain ⟨i, j, _, _, _, e, _, _, h9⟩ := place_at (sel_places HRS.out M) ht
                        exact ⟨_, e, h9⟩)).mono ?_
                      rintro e w6 ⟨v6, rv6, rfl, o6, u6⟩
                      rw [List.length_map, setTo_cells (sel_places HRS.out M) _ (Nat.le_refl _), List.take_length] at o6
                      have HO6 := Lib.hid o6.grid; clear o6
                      have HX6 := Lib.hid (EZ.out.trans u6); clear u6
                      obtain ⟨sb, hsb⟩ : ∃ sb, safeM x S down up M = sb := ⟨_, rfl⟩
                      have HSB := Lib.hid hsb; clear hsb
                      go_wp2_with fail
                      refine (vSafe_b sb x (setCells S (selM S M)) S _ _ _ down up _ HSB.out (inp_setCells _ HIN.out (by rw [HN.out, HM.out]; exact sel_places HRS.out M)) HL.out (HXG.out.ext HX6.out) HO6.out (HSG.out.ext HX6.out)).mono ?_
                      rintro e w7 ⟨rfl, u7⟩
                      have HX7 := Lib.hid (HX6.out.trans u7); clear u7
                      cases sb
                      · go_wp2_with fail
                        go_roundw
                        case rel => exact ⟨M + 1, _, by omega, by go_num, rfl, by rw [HS0.out HSB.out]; exact HBE.out _ HX7.out, HX5.out.trans HX7.out⟩
                        case measure => simp [intOf]; omega
                      · go_wp2_with fail
                        go_roundw
                        case rel => exact ⟨M + 1, true, by omega, by go_num, rfl, by rw [HS1.out HSB.out]; exact ⟨HC5.out.ext HX7.out, rfl⟩, HX5.out.trans HX7.out⟩
                        case measure => simp [intOf]; omega
                    · have hcc : ¬ cmpL (keyM x S M) (keyM x S b) < 0 := by rw [HKS.out, if_neg (by omega), hc]; omega
                      have HSKIP := Lib.hid (show bst x S (safeM x S down up) k (M + 1) = some b by rw [HNX.out, if_neg (fun h => hcc h.1)])
                      clear hcc hc
                      have n2 : decide (sumR x (selM S b) < sumR x (selM S M)) = true := by simp; omega
                      go_wp2_with fail
                      refine (vValue_c _ _ x (selM S M) n m _ (HXG.out.ext (Ext.refl w5)) (HC5.out.ext (Ext.refl w5)) HRX.out (sel_places HRS.out M) (by rw [HSZK.out]; exact hcl) hd HXB.out).mono ?_
                      rintro e wa1 ⟨rfl, dwa1⟩
                      go_wp2_with fail
                      refine (vValue_c _ _ x (selM S b) n m _ (HXG.out.ext dwa1.ext) (HBB.out.ext dwa1.ext) HRX.out (sel_places HRS.out b) (by rw [HBL.out]; exact hcl) hd HXB.out).mono ?_
                      rintro e wa2 ⟨rfl, dwa2⟩
                      go_wp2_with fail
                      go_roundw
                      case rel => exact ⟨M + 1, _, by omega, by go_num, rfl, by rw [HSKIP.out]; exact HBE.out _ (dwa1.trans dwa2).ext, HX5.out.trans (dwa1.trans dwa2).ext⟩
                      case measure => simp [intOf]; omega
                    · have hk2 := HKS.out
                      rw [if_pos hc] at hk2
                      have hne2 := HNE.out
                      rw [hk2] at hne2
                      have HMN := Lib.hid (show (selM S M).map (placeR m) ≠ (selM S b).map (placeR m) from fun h => hne2 (by rw [h]; exact cmpL_self _))
                      have HML := Lib.hid (show ((selM S M).map (placeR m)).length = ((selM S b).map (placeR m)).length by rw [List.length_map, List.length_map, HSZK.out, HBL.out])
                      have n1 : ¬ (sumR x (selM S b) < sumR x (selM S M)) := by omega
                      have n2 : decide (sumR x (selM S b) < sumR x (selM S M)) = false := by simp; omega
                      have n3 : (sumR x (selM S M) == sumR x (selM S b)) = true := by simp; omega
                      have HCK := Lib.hid hk2; clear hk2 hc
                      obtain ⟨KK, hKK⟩ : ∃ KK, cmpL ((selM S M).map (placeR m)) ((selM S b).map (placeR m)) = KK := ⟨_, rfl⟩
                      rw [hKK] at HCK hne2
                      have HKK := Lib.hid hKK; clear hKK
                      by_cases hng : KK < 0
                      · have HS1 := Lib.hid (show safeM x S down up M = true → bst x S (safeM x S down up) k (M + 1) = some M from fun h => by rw [HNX.out, if_pos ⟨by rw [HCK.out]; exact hng, h⟩])
                        have HS0 := Lib.hid (show safeM x S down up M = false → bst x S (safeM x S down up) k (M + 1) = some b from fun h => by rw [HNX.out, if_neg (by rw [h]; simp)])
                        have n5 : decide (0 ≤ KK) = false := by simp; omega
                        have n6 : ¬ (0 ≤ KK) := by omega
                        go_wp2_with fail
                        refine (vValue_c _ _ x (selM S M) n m _ (HXG.out.ext (Ext.refl w5)) (HC5.out.ext (Ext.refl w5)) HRX.out (sel_places HRS.out M) (by rw [HSZK.out]; exact hcl) hd HXB.out).mono ?_
                        rintro e wa1 ⟨rfl, dwa1⟩
                        go_wp2_with fail
                        refine (vValue_c _ _ x (selM S b) n m _ (HXG.out.ext dwa1.ext) (HBB.out.ext dwa1.ext) HRX.out (sel_places HRS.out b) (by rw [HBL.out]; exact hcl) hd HXB.out).mono ?_
                        rintro e wa2 ⟨rfl, dwa2⟩
                        go_wp2_with fail
                        refine (vValue_c _ _ x (selM S M) n m _ (HXG.out.ext (dwa1.trans dwa2).ext) (HC5.out.ext (dwa1.trans dwa2).ext) HRX.out (sel_places HRS.out M) (by rw [HSZK.out]; exact hcl) hd HXB.out).mono ?_
                        rintro e wa3 ⟨rfl, dwa3⟩
                        go_wp2_with fail
                        refine (vValue_c _ _ x (selM S b) n m _ (HXG.out.ext ((dwa1.trans dwa2).trans dwa3).ext) (HBB.out.ext ((dwa1.trans dwa2).trans dwa3).ext) HRX.out (sel_places HRS.out b) (by rw [HBL.out]; exact hcl) hd HXB.out).mono ?_
                        rintro e wa4 ⟨rfl, dwa4⟩
                        go_wp2_with fail
                        refine (less_c _ _ _ _ _ (HC5.out.ext (((dwa1.trans dwa2).trans dwa3).trans dwa4).ext) (HBB.out.ext (((dwa1.trans dwa2).trans dwa3).trans dwa4).ext) HML.out HMN.out).mono ?_
                        rintro e wa5 ⟨rfl, dwa5⟩
                        rw [HKK.out]
                        have EZ := Lib.hid ((((dwa1.trans dwa2).trans dwa3).trans dwa4).trans dwa5).ext
                        go_wp2_with fail
                        refine (vWith_c _ _ S ((selM S M).map (placeR m)) n m _ (HSG.out.ext EZ.out) (HC5.out.ext EZ.out) HRS.out hd (by rw [List.length_map, HSZK.out]; omega) (fun t ht => by
                          rw [List.length_map] at ht
                          obtain ⟨i, j, _, _, _, e, _, _, h9⟩ := place_at (sel_places HRS.out M) ht
                          exact ⟨_, e, h9⟩)).mono ?_
                        rintro e w6 ⟨v6, rv6, rfl, o6, u6⟩
                        rw [List.length_map, setTo_cells (sel_places HRS.out M) _ (Nat.le_refl _), List.take_length] at o6
                        have HO6 := Lib.hid o6.grid; clear o6
                        have HX6 := Lib.hid (EZ.out.trans u6); clear u6
                        obtain ⟨sb, hsb⟩ : ∃ sb, safeM x S down up M = sb := ⟨_, rfl⟩
                        have HSB := Lib.hid hsb; clear hsb
                        go_wp2_with fail
                        refine (vSafe_b sb x (setCells S (selM S M)) S _ _ _ down up _ HSB.out (inp_setCells _ HIN.out (by rw [HN.out, HM.out]; exact sel_places HRS.out M)) HL.out (HXG.out.ext HX6.out) HO6.out (HSG.out.ext HX6.out)).mono ?_
                        rintro e w7 ⟨rfl, u7⟩
                        have HX7 := Lib.hid (HX6.out.trans u7); clear u7
                        cases sb
                        · go_wp2_with fail
                          go_roundw
                          case rel => exact ⟨M + 1, _, by omega, by go_num, rfl, by rw [HS0.out HSB.out]; exact HBE.out _ HX7.out, HX5.out.trans HX7.out⟩
                          case measure => simp [intOf]; omega
                        · go_wp2_with fail
                          go_roundw
                          case rel => exact ⟨M + 1, true, by omega, by go_num, rfl, by rw [HS1.out HSB.out]; exact ⟨HC5.out.ext HX7.out, rfl⟩, HX5.out.trans HX7.out⟩
                          case measure => simp [intOf]; omega
                      · have HSKIP := Lib.hid (show bst x S (safeM x S down up) k (M + 1) = some b by rw [HNX.out, if_neg (fun h => hng (by rw [← HCK.out]; exact h.1))])
                        have n5 : decide (0 ≤ KK) = true := by simp; omega
                        have n6 : 0 ≤ KK := by omega
                        go_wp2_with fail
                        refine (vValue_c _ _ x (selM S M) n m _ (HXG.out.ext (Ext.refl w5)) (HC5.out.ext (Ext.refl w5)) HRX.out (sel_places HRS.out M) (by rw [HSZK.out]; exact hcl) hd HXB.out).mono ?_
                        rintro e wa1 ⟨rfl, dwa1⟩
                        go_wp2_with fail
                        refine (vValue_c _ _ x (selM S b) n m _ (HXG.out.ext dwa1.ext) (HBB.out.ext dwa1.ext) HRX.out (sel_places HRS.out b) (by rw [HBL.out]; exact hcl) hd HXB.out).mono ?_
                        rintro e wa2 ⟨rfl, dwa2⟩
                        go_wp2_with fail
                        refine (vValue_c _ _ x (selM S M) n m _ (HXG.out.ext (dwa1.trans dwa2).ext) (HC5.out.ext (dwa1.trans dwa2).ext) HRX.out (sel_places HRS.out M) (by rw [HSZK.out]; exact hcl) hd HXB.out).mono ?_
                        rintro e wa3 ⟨rfl, dwa3⟩
                        go_wp2_with fail
                        refine (vValue_c _ _ x (selM S b) n m _ (HXG.out.ext ((dwa1.trans dwa2).trans dwa3).ext) (HBB.out.ext ((dwa1.trans dwa2).trans dwa3).ext) HRX.out (sel_places HRS.out b) (by rw [HBL.out]; exact hcl) hd HXB.out).mono ?_
                        rintro e wa4 ⟨rfl, dwa4⟩
                        go_wp2_with fail
                        refine (less_c _ _ _ _ _ (HC5.out.ext (((dwa1.trans dwa2).trans dwa3).trans dwa4).ext) (HBB.out.ext (((dwa1.trans dwa2).trans dwa3).trans dwa4).ext) HML.out HMN.out).mono ?_
                        rintro e wa5 ⟨rfl, dwa5⟩
                        rw [HKK.out]
                        go_wp2_with fail
                        go_roundw
                        case rel => exact ⟨M + 1, _, by omega, by go_num, rfl, by rw [HSKIP.out]; exact HBE.out _ ((((dwa1.trans dwa2).trans dwa3).trans dwa4).trans dwa5).ext, HX5.out.trans ((((dwa1.trans dwa2).trans dwa3).trans dwa4).trans dwa5).ext⟩
                        case measure => simp [intOf]; omega
                · have hne : (((selM S M).length : Int) != (k : Int)) = true := by simp; omega
                  have HST := Lib.hid (show bst x S (safeM x S down up) k (M + 1) = bst x S (safeM x S down up) k M from bst_off hsz)
                  go_wp2_with fail
                  go_roundw
                  case rel => exact ⟨M + 1, fb, by omega, by go_num, rfl, by rw [HST.out]; exact HB5.out, HX5.out⟩
                  case measure => simp [intOf]; omega
              · have hMe : M = N := by omega
                subst hMe
                have hMN' : ¬ ((M : Int) < (M : Int)) := by omega
                cases hbs : bst x S (safeM x S down up) k M with
                | none =>
                  rw [hbs] at HB
                  obtain ⟨rfl, rfl⟩ := HB.out
                  have HSZE := Lib.hid (bst_size HH0.out hbs); clear hbs
                  go_wp2_with fail
                  go_roundw
                  case rel => exact ⟨k + 1, by omega, by go_num, hx3, HSZE.out⟩
                  case measure => simp [intOf]; omega
                | some b =>
                  rw [hbs] at HB
                  obtain ⟨hbi, rfl⟩ := HB.out
                  obtain ⟨ab, cb, rfl, b1, b2, b3⟩ := HB.out.1
                  clear b3
                  have HLE := Lib.hid (show lpO x S down up = some b from HO.out.trans (bst_least HRS.out HNN.out HH0.out hbs))
                  obtain ⟨i1, i2, i3, i4⟩ := bst_some HRS.out HNN.out (Nat.le_refl _) hbs
                  clear i4 i3 i1 hbs
                  have HBL := Lib.hid i2
                  rw [List.length_map, i2] at b1 hbi ⊢
                  have HBB := Lib.hid hbi; clear hbi HB i2
                  have HLB := Lib.hid (show lpB x S down up = true by unfold lpB; rw [HLE.out]; rfl)
                  have HLV := Lib.hid (show lpV x S down up = ⟨setCells S (selM S b), (k : Int), sumR x (selM S b)⟩ by unfold lpV; rw [HLE.out]; show Pl.mk _ _ _ = _; rw [HBL.out])
                  have hwi := HU.out.trans hx3
                  have HXG := Lib.hid (H1.out.ext hwi)
                  have HSG := Lib.hid (H2.out.ext hwi)
                  have hlt4 : w.heap.size < wi.heap.size := by have := (HAX.out.trans hx3).size; have := HSZ.out; omega
                  go_wp2_with fail
                  refine (vWith_c _ _ S ((selM S b).map (placeR m)) n m _ HSG.out HBB.out HRS.out hd (by rw [List.length_map, HBL.out]; omega) (fun t ht => by
                    rw [List.length_map] at ht
                    obtain ⟨i, j, _, _, _, e, _, _, h9⟩ := place_at (sel_places HRS.out b) ht
                    exact ⟨_, e, h9⟩)).mono ?_
                  rintro e w6 ⟨v6, rv6, rfl, o6, u6⟩
                  rw [List.length_map, setTo_cells (sel_places HRS.out b) _ (Nat.le_refl _), List.take_length] at o6
                  obtain ⟨a6, c6, rfl, l4, l5, l6⟩ := o6
                  have hlen := (setCells_rc (selM S b) HRS.out).len
                  have HO6 := Lib.hid (show OwnG wi.heap.size w6.heap.size w6 (.slice a6 n c6) rv6 (setCells S (selM S b)) from ⟨a6, c6, by rw [hlen], l4, l5, l6⟩)
                  rw [hlen] at l4 ⊢
                  clear l6 hlen
                  go_wp2_with fail
                  refine (vValue_c _ _ x (selM S b) n m _ (HXG.out.ext u6) (HBB.out.ext u6) HRX.out (sel_places HRS.out b) (by rw [HBL.out]; omega) hd HXB.out).mono ?_
                  rintro e w7 ⟨rfl, d7⟩
                  have HO7 := Lib.hid ((HO6.out.ext d7.ext).mono (Nat.le_refl _) d7.ext.size)
                  have HU7 := Lib.hid ((hwi.trans u6).trans d7.ext)
                  have br := ((HB0.out.ext (HAX.out.trans hx3)).ext u6).ext d7.ext
                  have q0 := br.cell 0 (by simp)
                  have q1 := br.cell 1 (by simp)
                  have q2 := br.cell 2 (by simp)
                  have z0 := br.free 0
                  have z1 := br.free 1
                  have z2 := br.free 2
                  clear br d7 u6
                  obtain ⟨V, hV⟩ : ∃ V, sumR x (selM S b) = V := ⟨_, rfl⟩
                  rw [hV] at HLV ⊢
                  clear hV
                  go_wp2
                  refine bodyPost_ret (v := .tuple #[.agg #[.slice a6 n c6, .int .i64 k, .int .i64 V], .bool true]) (by simp [results, Try.results18, go_sem, q0, q1, q2]) rfl ⟨_, by rw [HLB.out], ?_, ((HU7.out.setCell _ (Nat.le_refl _)).setCell _ (Nat.le_refl _)).setCell _ (Nat.le_refl _)⟩
                  rw [HLV.out]
                  exact ⟨_, _, _, rv6, rfl, (((HO7.out.put_away ⟨w.heap.size, 0, none⟩ (.slice a6 n c6) (.inl hlt4)).put_away ⟨w.heap.size, 1, none⟩ (.int .i64 k) (.inl hlt4)).put_away ⟨w.heap.size, 2, none⟩ (.int .i64 V) (.inl hlt4)).mono (Nat.le_of_lt hlt4) (by simp [World.setCell]), rfl, rfl⟩
          · have hkF' : ¬ ((k : Int) ≤ (F : Int)) := by omega
            have HNO := Lib.hid (show lpO x S down up = none by
              rw [HO.out]
              exact bst_nothing (fun c hc hl => HH0.out c hc (by rw [HFF.out] at hl; omega)))
            have hO := Lib.hid (HOFF.out HNO.out)
            have br := (HB0.out.ext HAX.out).ext hx
            have q0 := br.cell 0 (by simp)
            have q1 := br.cell 1 (by simp)
            have q2 := br.cell 2 (by simp)
            have f0 := br.free 0
            have f1 := br.free 1
            have f2 := br.free 2
            have hE := HU.out.trans hx
            clear br
            go_wp2
            refine bodyPost_ret (v := .tuple #[.agg #[.slice none 0 0, .int .i64 0, .int .i64 0], .bool false]) (by simp [results, Try.results18, go_sem, q0, q1, q2]) rfl ⟨_, by rw [hO.out.1], by rw [hO.out.2]; exact nothing _, ?_⟩
            first | exact hE | exact ((hE.setCell _ (Nat.le_refl _)).setCell _ (Nat.le_refl _)).setCell _ (Nat.le_refl _)
          -- END cut loop2
      · have hF10' : (10 : Int) < (F : Int) := by omega
        have HNO := Lib.hid (show lpO x S down up = none by
          unfold lpO
          rw [if_neg]
          rintro ⟨_, h9⟩
          rw [hF] at h9; exact hF10 h9)
        have hO := Lib.hid (HOFF.out HNO.out)
        have br := HB0.out.ext HAX.out
        have q0 := br.cell 0 (by simp)
        have q1 := br.cell 1 (by simp)
        have q2 := br.cell 2 (by simp)
        have z0 := br.free 0
        have z1 := br.free 1
        have z2 := br.free 2
        have hE := HU.out
        clear br
        go_wp2
        refine bodyPost_ret (v := .tuple #[.agg #[.slice none 0 0, .int .i64 0, .int .i64 0], .bool false]) (by simp [results, Try.results18, go_sem, q0, q1, q2]) rfl ⟨_, by rw [hO.out.1], by rw [hO.out.2]; exact nothing _, ?_⟩
        first | exact hE | exact ((hE.setCell _ (Nat.le_refl _)).setCell _ (Nat.le_refl _)).setCell _ (Nat.le_refl _)
    -- END cut loop1
end Go.Proofs.Ytodnkahnbidgaaa
namespace Go.Proofs.Ytodnkahnbidgaaa
open Go.RowKit Go.Shelf Go.Sort
open Fm

theorem putRow_upd {α : Type} [Inhabited α] (enc : α → List Value) (k : Nat) (w : World) (blk off m : Nat) (d : Array α) (os : Array Obj) : Upd (fun b => b = blk) w (sortWorldK enc k w blk off m d os) := by
  refine ⟨rfl, rfl, rfl, size_sortWorldK_c enc k w blk off m d os, fun i hi hne => ?_⟩
  unfold sortWorldK
  rw [heap_grow_old _ _ (by rw [size_putRowK]; exact hi)]
  show (w.heap.modify blk _)[i]? = w.heap[i]?
  rw [Array.getElem?_modify]
  have : ¬ blk = i := fun e => hne e.symm
  rw [if_neg this]

section
variable {N : Nat} (x S : List (List Int))
def cfM (N : Nat) (a b : Fin N) : Int := cmpL (keyM x S a.val) (keyM x S b.val)
theorem swoM : SWO (ltOf (cfM x S N)) where
  irrefl a := by unfold ltOf cfM; rw [cmpL_self]; rfl
  trans a b c h1 h2 := by
    unfold ltOf cfM at *
    simp only [decide_eq_true_eq] at *
    exact cmpL_trans h1 h2
  ntrans a b c h1 h2 := by
    unfold ltOf cfM at *
    simp only [decide_eq_false_iff_not] at *
    intro h3
    by_cases e : cmpL (keyM x S a.val) (keyM x S b.val) = 0
    · rw [cmpL_eq e] at h3; exact h2 h3
    · have h4 : cmpL (keyM x S b.val) (keyM x S a.val) < 0 := by rw [cmpL_neg]; omega
      exact h2 (cmpL_trans h4 h3)
/-- a choice's two cells -/
def encM (N : Nat) (vs : Nat → Value) (a : Fin N) : List Value := [vs a.val, .int .i64 (sumR x (selM S a.val))]
end

set_option maxHeartbeats 1600000 in
theorem sort_c (x S : List (List Int)) (n m N : Nat) [Inhabited (Fin N)] (hr : Rc n m S) (vs : Nat → Value) (blk off cap : Nat) (d : Array (Fin N)) (w : World)
    (h1 : ∀ k, k < N → (vs k).oneCell' = true) (hG : ∀ w', Upd (fun b => b = blk) w w' → ∀ k, k < N → Grid w' (vs k) (selM S k)) (hH : HoldsK (encM x S N vs) 2 w blk off d) (hblk : blk < w.heap.size) (hsz : d.size < 4611686018427387904) :
    Calls Try.prog 59 #[.slice (some ⟨blk, off, none⟩) d.size cap, .func (.func 60) #[] #[]] w fun e w' => e = .returned (.tuple #[]) ∧
      ∃ d' : Array (Fin N), d'.size = d.size ∧ d'.toList.Perm d.toList ∧ SortedIn (ltOf (cfM x S N)) 0 d.size d' ∧ HoldsK (encM x S N vs) 2 w' blk off d' ∧ Upd (fun b => b = blk) w w' := by
  have eg : ∀ args w, (callFunc 60 args).run Try.prog w = .ok (.enter 60 args) w := enters_of Try.func60 (by kernel_rfl) rfl
  have hcmp : CmpLays Try.prog 60 #[] (encM x S N vs) 2 (cfM x S N) blk off d.size w := fun q os dk hs a b => by
    have hu := putRow_upd (encM x S N vs) 2 w blk off q dk os
    refine (lpC_c (vs a.val) (vs b.val) (sumR x (selM S a.val)) (sumR x (selM S b.val)) (selM S a.val) (selM S b.val) _ (hG _ hu _ a.isLt) (hG _ hu _ b.isLt)).mono ?_
    rintro e w' ⟨rfl, hg⟩
    exact ⟨by rw [or3_key _ _ (sel_two hr a.val) (sel_two hr b.val)]; rfl, hg⟩
  have hcon := AnyQ.slices_SortFunc Try.sortF 2 Try.isAgg68 Try.sizeOf68 (encM x S N vs) (fun _ => rfl) (fun a v hv => by
    simp only [encM, List.mem_cons, List.not_mem_nil, or_false] at hv
    rcases hv with rfl | rfl
    · exact h1 a.val a.isLt
    · rfl) (cfM x S N) (swoM x S) 60 #[] blk off cap d w eg hcmp hH hblk hsz
  refine hcon.mono ?_
  rintro e w' ⟨rfl, d', q, os, hp, hs, rfl⟩
  have hdd : d'.extract 0 d.size = d' := by rw [← hp.1]; exact Array.extract_size
  have hde : d.extract 0 d.size = d := Array.extract_size
  have hpp := hp.2.2
  rw [hdd, hde] at hpp
  exact ⟨rfl, d', hp.1, hpp, hs, holdsK_sortWorldK_c _ _ _ _ _ _ _ _ _ hH hblk hp.1, putRow_upd _ _ _ _ _ _ _ _⟩
end Go.Proofs.Ytodnkahnbidgaaa
namespace Go.Proofs.Ytodnkahnbidgaaa
open Go.RowKit
open Fm

/-- the cells c of a choice stay readable whatever is written into the block of the choices v -/
def StabV (w : World) (c : Value) (A : List (List Int)) (v : Value) : Prop := ∀ w', Upd (fun b => v.ownBlock = some b) w w' → Grid w' c A
theorem StabV.ext {w w' : World} {c v : Value} {A : List (List Int)} (h : StabV w c A v) (u : Ext w w') : StabV w' c A v :=
  fun w'' k => h w'' ((Upd.mono u (fun _ _ s => False.elim s)).trans k)
theorem StabV.app {w w' : World} {c v : Value} {A : List (List Int)} (h : StabV w c A v) (hg : w.grownBy w' v.ownBlock) {g n cap : Nat} (hat : v.ownBlock = some g ∨ g = w.heap.size) : StabV w' c A (.slice (some ⟨g, 0, none⟩) n cap) := fun w'' k => by
  have k' : Upd (fun b => v.ownBlock = some b ∨ b = g) w' w'' := k.mono (fun b _ hb => .inr (by simpa [Value.ownBlock] using hb.symm))
  have u := ((Upd.of_grown hg).mono (T := fun b => v.ownBlock = some b ∨ b = g) (fun b _ hb => Or.inl hb)).trans k'
  refine h w'' (u.mono (fun b hb hs => ?_))
  rcases hs with e | e
  · exact e
  · rcases hat with h2 | h2
    · rw [e]; exact h2
    · omega
theorem Grid.of_row {w : World} {lo : Nat} {v : Value} {A : List (List Int)} {rs : List Value} (h : w.ownsRow lo 36 1 v A.length rs) (hr : ∀ t, t < A.length → Ints w (rvAt rs t) (rowAt A t)) : Grid w v A := by
  obtain ⟨h1, h2⟩ := h
  rcases h2 with ⟨rfl, h0⟩ | ⟨g, cap, cur, rfl, hb, hg, hnc, hm, hs, ht⟩
  · have : A = [] := List.eq_nil_of_length_eq_zero h0
    subst this; exact ⟨none, 0, rfl, Nat.le_refl _, by omega, fun k hk => by simp at hk⟩
  · refine ⟨some ⟨g, 0, none⟩, cap, rfl, hnc, by simpa [maxLen] using hm, fun k hk => ⟨g, 0, rvAt rs k, rfl, ?_, hr k hk⟩⟩
    have hkl : k < rs.length := by rw [h1]; omega
    have e : (cur.toList.take (A.length * 1))[k]? = some (rvAt rs k) := by rw [ht]; simp [rvAt, List.getD, hkl]
    rw [List.getElem?_take, if_pos (by omega)] at e
    have e2 : cur[k]? = some (rvAt rs k) := by simpa using e
    simp [World.cell?, hg, e2]
theorem appCh {P : Program} {ops : Array Oper} {rest : List Oper} {o : Oper} {a : Act} {Q : Exit → Act → World → Prop} (w : World) (hgd : o.guard = none) (s x : Operand) (t e : TypeId)
    (ho : o.op = .call { callee := .builtin .append, args := #[s, x], argTypes := #[t, t] }) (z : Value) (sz bytes : Nat) (ht : P.underlying t = some (.slice e))
    (hinfo : (P.info? e).map (fun i => (i.zero, i.size, i.bytes)) = some (some z, sz, bytes)) (hzs : z.cells.size = sz) (hsz : 0 < sz)
    (lo : Nat) (v : Value) (n : Nat) (xs : List Value) (hs : a.eval s = v) (hown : w.ownsRow lo e sz v n xs) (B c T : Nat) (us : List Value) (hx : a.eval x = .slice (some ⟨B, 0, none⟩) 1 c) (hb : Box w B T us.toArray) (hl : us.length = sz) (hu : ∀ u ∈ us, u.oneCell' = true)
    (hn : n < 9223372036854775807) (hbytes : (n + 1) * bytes ≤ 140737488355328) (hlo : lo ≤ w.heap.size)
    (h : ∀ g cap w', w'.ownsRow lo e sz (.slice (some ⟨g, 0, none⟩) (n + 1) cap) (n + 1) (xs ++ us) → w.grownBy w' v.ownBlock → (v.ownBlock = some g ∨ g = w.heap.size) → g < w'.heap.size →
      wpList P ops Q rest (a.put o.dst (.slice (some ⟨g, 0, none⟩) (n + 1) cap)) w') : wpList P ops Q (o :: rest) a w := by
  obtain ⟨i, hi, hzz⟩ := Option.map_eq_some_iff.1 hinfo
  simp only [Prod.mk.injEq] at hzz
  obtain ⟨hz0, hz1, hz2⟩ := hzz
  exact wpList_append_lies w hgd s x t ho lo e i z sz bytes ht hi hz0 hz1 hz2 hzs hsz v n xs hs hown ⟨B, 0, none⟩ 1 c us hx (by omega) (by have := World.news_of_block hb; simpa using this) hu
    (by omega) (by simp [maxLen]; omega) hbytes hlo w.heap.size rfl h
/-- the choices' cells -/
def chV (vs : Nat → Value) (val : Nat → Int) : Nat → List Value
  | 0 => []
  | k + 1 => chV vs val k ++ [vs k, .int .i64 (val k)]
theorem chV_len (vs : Nat → Value) (val : Nat → Int) : ∀ k, (chV vs val k).length = k * 2
  | 0 => rfl
  | k + 1 => by rw [chV, List.length_append, chV_len vs val k]; simp; omega
theorem chV_at (vs : Nat → Value) (val : Nat → Int) : ∀ k j, j < k → (chV vs val k)[j * 2]? = some (vs j) ∧ (chV vs val k)[j * 2 + 1]? = some (.int .i64 (val j))
  | 0, _, h => by omega
  | k + 1, j, h => by
    have hl := chV_len vs val k
    by_cases e : j = k
    · subst e
      rw [chV, List.getElem?_append_right (by omega), List.getElem?_append_right (by omega), hl]
      simp
    · have ih := chV_at vs val k j (by omega)
      rw [chV, List.getElem?_append_left (by omega), List.getElem?_append_left (by omega)]
      exact ih
theorem chV_congr {vs vs' : Nat → Value} (val : Nat → Int) : ∀ k, (∀ j, j < k → vs j = vs' j) → chV vs val k = chV vs' val k
  | 0, _ => rfl
  | k + 1, h => by rw [chV, chV, chV_congr val k (fun j hj => h j (by omega)), h k (by omega)]
open Go.Sort in
theorem holds_choices {w : World} {lo g cap N : Nat} [Inhabited (Fin N)] {vs : Nat → Value} {val : Nat → Int} {T : TypeId} (h : w.ownsRow lo T 2 (.slice (some ⟨g, 0, none⟩) N cap) N (chV vs val N)) (hN : 0 < N) : HoldsK (fun a : Fin N => [vs a.val, .int .i64 (val a.val)]) 2 w g 0 (Array.ofFn fun a : Fin N => a) := by
  obtain ⟨h1, h2⟩ := h
  rcases h2 with ⟨_, h0⟩ | ⟨g', cap', cur, e, hb, hg, hnc, hm, hs, ht⟩
  · omega
  · obtain ⟨rfl, _⟩ : g = g' ∧ cap = cap' := by simpa using e
    intro t htt
    have hlt : t < N * 2 := by simpa using htt
    refine ⟨?_, by simp [World.frozen?, hg]⟩
    have hq : t / 2 < N := by omega
    have hc := chV_at vs val N (t / 2) hq
    have e1 : (cur.toList.take (N * 2))[t]? = (chV vs val N)[t]? := by rw [ht]
    rw [List.getElem?_take, if_pos hlt] at e1
    have hd : (Array.ofFn fun a : Fin N => a)[t / 2]! = ⟨t / 2, hq⟩ := by
      rw [getElem!_pos (Array.ofFn fun a : Fin N => a) (t / 2) (by simpa using hq)]; simp
    rw [get_flatK _ _ _ _ (by simpa using hlt), hd]
    rcases Nat.mod_two_eq_zero_or_one t with h3 | h3
    · have e2 : t / 2 * 2 = t := by omega
      rw [e2] at hc
      rw [hc.1] at e1
      have e3 : cur[t]? = some (vs (t / 2)) := by simpa using e1
      rw [h3]
      simp [World.cell?, hg, e3]
    · have e2 : t / 2 * 2 + 1 = t := by omega
      rw [e2] at hc
      rw [hc.2] at e1
      have e3 : cur[t]? = some (.int .i64 (val (t / 2))) := by simpa using e1
      rw [h3]
      simp [World.cell?, hg, e3]
open Go.Sort in
theorem sorted_least {x S : List (List Int)} {n m N : Nat} [Inhabited (Fin N)] (hr : Rc n m S) (hN : N = 2 ^ (freeL S).length) {safe : Nat → Bool} {d : Array (Fin N)} (hs : d.size = N) (hp : d.toList.Perm (Array.ofFn fun a : Fin N => a).toList) (ho : SortedIn (ltOf (cfM x S N)) 0 N d) {p : Nat} (hpl : p < N) (h0 : ∀ i, i < p → safe (d[i]!).val = false) (h1 : safe (d[p]!).val = true) : leastO N safe (keyM x S) = some (d[p]!).val := by
  refine leastO_some ⟨(d[p]!).isLt, h1, fun b hb hsb => ?_⟩
  have hm : (⟨b, hb⟩ : Fin N) ∈ d.toList := hp.mem_iff.2 (by simp)
  obtain ⟨q, hq, e⟩ := List.getElem_of_mem hm
  have hq' : q < d.size := by simpa using hq
  have e' : d[q]! = ⟨b, hb⟩ := by
    rw [getElem!_pos d q hq']
    simpa using e
  rcases Nat.lt_trichotomy q p with h | h | h
  · have := h0 q h
    rw [e'] at this
    rw [hsb] at this; cases this
  · left
    rw [← h, e']
  · have h3 := ho p q (Nat.zero_le _) h (by omega)
    rw [e'] at h3
    unfold ltOf cfM at h3
    simp only [decide_eq_false_iff_not] at h3
    by_cases h5 : cmpL (keyM x S b) (keyM x S (d[p]!).val) = 0
    · exact .inl (keyM_inj hr (by rw [← hN]; exact hb) (by rw [← hN]; exact (d[p]!).isLt) h5)
    · rw [cmpL_neg] at h3 h5
      right
      omega
open Go.Sort in
theorem sorted_none {x S : List (List Int)} {N : Nat} [Inhabited (Fin N)] {safe : Nat → Bool} {d : Array (Fin N)} (hs : d.size = N) (hp : d.toList.Perm (Array.ofFn fun a : Fin N => a).toList) (h0 : ∀ i, i < N → safe (d[i]!).val = false) : leastO N safe (keyM x S) = none := by
  refine leastO_none fun b hb => ?_
  have hm : (⟨b, hb⟩ : Fin N) ∈ d.toList := hp.mem_iff.2 (by simp)
  obtain ⟨q, hq, e⟩ := List.getElem_of_mem hm
  have hq' : q < d.size := by simpa using hq
  have e' : d[q]! = ⟨b, hb⟩ := by
    rw [getElem!_pos d q hq']
    simpa using e
  have := h0 q (by omega)
  rwa [e'] at this
theorem info_choice : (Try.prog.info? 68).map (fun i => (i.zero, i.size, i.bytes)) = some (some (.agg #[.slice none 0 0, .int .i64 0]), 2, 32) := by kernel_rfl
end Go.Proofs.Ytodnkahnbidgaaa
namespace Go.Proofs.Ytodnkahnbidgaaa
open Go.RowKit
open Fm

set_option maxRecDepth 100000 in
set_option maxHeartbeats 12800000 in
theorem implLp_c (v1 : Value) (x : List (List Int)) (v2 : Value) (S : List (List Int)) (down up : Int) (w : World) (h1 : Grid w v1 x) (h2 : Grid w v2 S) :
    Calls Try.prog 19 #[v1, v2, .int .i64 down, .int .i64 up] w fun e w' => ∃ v', e = .returned (.tuple #[v', .bool (lpB x S down up)]) ∧ PlO w.heap.size w'.heap.size w' v' (lpV x S down up) ∧ Ext w w' := by
  have H1 := Lib.hid h1; clear h1
  have H2 := Lib.hid h2; clear h2
  have u0 := (Ext.refl w).alloc (.cells #[.slice none 0 0, .int .i64 0, .int .i64 0] 30)
  have b0 := Box.new w 30 #[.slice none 0 0, .int .i64 0, .int .i64 0] rfl
  have nothing : ∀ (w' : World), PlO w.heap.size w'.heap.size w' (.agg #[.slice none 0 0, .int .i64 0, .int .i64 0]) ⟨[], 0, 0⟩ := fun w' => ⟨_, _, _, [], rfl, OwnG.nil, rfl, rfl⟩
  have HOFF := Lib.hid (show lpO x S down up = none → lpB x S down up = false ∧ lpV x S down up = ⟨[], 0, 0⟩ from fun e => by
    unfold lpB lpV
    rw [e]; exact ⟨rfl, rfl⟩)
  have HSZ := Lib.hid (show (w.alloc (.cells #[.slice none 0 0, .int .i64 0, .int .i64 0] 30)).heap.size = w.heap.size + 1 by simp)
  have HB0 := Lib.hid b0; clear b0
  obtain ⟨wa, hwa⟩ : ∃ wa, wa = w.alloc (.cells #[.slice none 0 0, .int .i64 0, .int .i64 0] 30) := ⟨_, rfl⟩
  rw [← hwa] at HB0 u0 HSZ
  cases hp : pubB x S
  · have hO := Lib.hid (HOFF.out (by simp [lpO, cpB, hp]))
    have HP := Lib.hid hp; clear hp
    go_enter Try.func19, Try.ntmps19
    go_wp2_with fail
    rw [← hwa]
    clear hwa
    refine (areSuppressed_b false _ _ x S _ HP.out (H1.out.ext u0) (H2.out.ext u0)).mono ?_
    rintro e w' ⟨rfl, rfl⟩
    have hE := u0
    have br := HB0.out
    have q0 := br.cell 0 (by simp)
    have q1 := br.cell 1 (by simp)
    have q2 := br.cell 2 (by simp)
    have z0 := br.free 0
    have z1 := br.free 1
    have z2 := br.free 2
    clear br
    go_wp2
    refine bodyPost_ret (v := .tuple #[.agg #[.slice none 0 0, .int .i64 0, .int .i64 0], .bool false]) (by simp [results, Try.results19, go_sem, q0, q1, q2]) rfl ⟨_, by rw [hO.out.1], by rw [hO.out.2]; exact nothing _, ?_⟩
    first | exact hE | exact ((hE.setCell _ (Nat.le_refl _)).setCell _ (Nat.le_refl _)).setCell _ (Nat.le_refl _)
  cases hl : levB down up
  · have hO := Lib.hid (HOFF.out (by simp [lpO, cpB, hl]))
    have HP := Lib.hid hp; clear hp
    have HL := Lib.hid hl; clear hl
    go_enter Try.func19, Try.ntmps19
    go_wp2_with fail
    rw [← hwa]
    clear hwa
    refine (areSuppressed_b true _ _ x S _ HP.out (H1.out.ext u0) (H2.out.ext u0)).mono ?_
    rintro e w' ⟨rfl, rfl⟩
    go_wp2_with fail
    refine (areMargins_b false down up _ HL.out).mono ?_
    rintro e w' ⟨rfl, rfl⟩
    have hE := u0
    have br := HB0.out
    have q0 := br.cell 0 (by simp)
    have q1 := br.cell 1 (by simp)
    have q2 := br.cell 2 (by simp)
    have z0 := br.free 0
    have z1 := br.free 1
    have z2 := br.free 2
    clear br
    go_wp2
    refine bodyPost_ret (v := .tuple #[.agg #[.slice none 0 0, .int .i64 0, .int .i64 0], .bool false]) (by simp [results, Try.results19, go_sem, q0, q1, q2]) rfl ⟨_, by rw [hO.out.1], by rw [hO.out.2]; exact nothing _, ?_⟩
    first | exact hE | exact ((hE.setCell _ (Nat.le_refl _)).setCell _ (Nat.le_refl _)).setCell _ (Nat.le_refl _)
  have HIN := Lib.hid (inp_self hp)
  have hd := atk_dims hp
  have HRX := Lib.hid (pub_rc hp)
  have HRS := Lib.hid (pat_rc hp)
  have HXB := Lib.hid (fun i j (hi : i < x.length) (hj : j < (rowAt x 0).length) => pub_el hp hi hj)
  have H01 := Lib.hid (show ∀ i j, i < x.length → j < (rowAt x 0).length → elOf S i j = 0 ∨ elOf S i j = 1 from fun i j hi hj => pat01 hp hi hj)
  have HCP := Lib.hid (show cpB x S down up = true by simp [cpB, hp, hl])
  have HP := Lib.hid hp; clear hp
  have HL := Lib.hid hl; clear hl
  obtain ⟨n, hn⟩ : ∃ n, x.length = n := ⟨_, rfl⟩
  obtain ⟨m, hm⟩ : ∃ m, (rowAt x 0).length = m := ⟨_, rfl⟩
  rw [hn] at HRX HRS hd HXB H01
  rw [hm] at HRX HRS hd HXB H01
  have HN := Lib.hid hn; clear hn
  have HM := Lib.hid hm; clear hm
  go_enter Try.func19, Try.ntmps19
  go_wp2_with fail
  rw [← hwa]
  have HWA := Lib.hid hwa; clear hwa
  refine (areSuppressed_b true _ _ x S _ HP.out (H1.out.ext u0) (H2.out.ext u0)).mono ?_
  rintro e w' ⟨rfl, rfl⟩
  go_wp2_with fail
  refine (areMargins_b true down up _ HL.out).mono ?_
  rintro e w' ⟨rfl, rfl⟩
  go_wp2_with fail
  refine (freeCells_c _ S n m _ (H2.out.ext u0) HRS.out hd H01.out).mono ?_
  rintro e w1 ⟨vf, rvs, rfl, og, u1⟩
  change OwnG _ _ _ _ _ (freeL S) at og
  have HOG := Lib.hid og
  obtain ⟨af, cf, rfl, f1, f2, f3⟩ := og
  have HGA := Lib.hid f3; clear f3
  obtain ⟨F, hF⟩ : ∃ F, (freeL S).length = F := ⟨_, rfl⟩
  rw [hF] at f1 HOG ⊢
  have HAX := Lib.hid u1
  have HU := Lib.hid (u0.trans u1)
  by_cases hF10 : F ≤ 10
  · have hF10' : ¬ ((10 : Int) < (F : Int)) := by omega
    have hF10'' : decide ((10 : Int) < (F : Int)) = false := by simp; omega
    have HFF := Lib.hid hF; clear hF
    have HO := Lib.hid (show lpO x S down up = leastO (2 ^ F) (safeM x S down up) (keyM x S) by unfold lpO; rw [if_pos ⟨HCP.out, by rw [HFF.out]; exact hF10⟩, HFF.out])
    go_wp2_with fail
    refine (with_c _ _ S (freeL S) n m _ (H2.out.ext HU.out) HOG.out.grid HRS.out hd (free_places HRS.out) (by rw [HFF.out]; omega)).mono ?_
    rintro e w2 ⟨vw, rw2, rfl, ow, u2⟩
    have HGW := Lib.hid ow.grid; clear ow
    obtain ⟨sb, hsb⟩ : ∃ sb, safeB x (setCells S (freeL S)) S down up = sb := ⟨_, rfl⟩
    go_wp2_with fail
    refine (protects_b sb x (setCells S (freeL S)) S _ _ _ down up _ hsb (inp_setCells _ HIN.out (by rw [HN.out, HM.out]; exact free_places HRS.out)) HL.out (H1.out.ext (HU.out.trans u2)) HGW.out (H2.out.ext (HU.out.trans u2))).mono ?_
    rintro e w3 ⟨rfl, u3⟩
    have HU3 := Lib.hid (u2.trans u3); clear u2 u3
    cases sb
    · have hO := Lib.hid (HOFF.out (HO.out.trans (leastO_none fun a _ => none_safe HIN.out hsb a)))
      have hE := HU.out.trans HU3.out
      have br := (HB0.out.ext HAX.out).ext HU3.out
      have q0 := br.cell 0 (by simp)
      have q1 := br.cell 1 (by simp)
      have q2 := br.cell 2 (by simp)
      have z0 := br.free 0
      have z1 := br.free 1
      have z2 := br.free 2
      clear br
      go_wp2
      refine bodyPost_ret (v := .tuple #[.agg #[.slice none 0 0, .int .i64 0, .int .i64 0], .bool false]) (by simp [results, Try.results19, go_sem, q0, q1, q2]) rfl ⟨_, by rw [hO.out.1], by rw [hO.out.2]; exact nothing _, ?_⟩
      first | exact hE | exact ((hE.setCell _ (Nat.le_refl _)).setCell _ (Nat.le_refl _)).setCell _ (Nat.le_refl _)
    · clear hsb
      obtain ⟨N, hN⟩ : ∃ N, 2 ^ F = N := ⟨_, rfl⟩
      have hN10 : N ≤ 1024 := by rw [← hN]; exact Nat.pow_le_pow_right (show 0 < 2 by omega) hF10
      have hN0 : 0 < N := by rw [← hN]; exact Nat.two_pow_pos F
      rw [hN] at HO
      have HNN := Lib.hid (show N = 2 ^ (freeL S).length by rw [HFF.out, hN])
      have hNI : (2 : Int) ^ F = (N : Int) := by rw [← hN]; push_cast; rfl
      have HN2 := Lib.hid hN; clear hN
      have HOG3 := Lib.hid (HOG.out.ext HU3.out)
      go_wp2_with fail
      go_loopw [11, 50] (fun v i wr => ∃ (cv : Value) (k : Nat) (vs : Nat → Value), cv = v ∧ k ≤ N ∧ i = .int .i64 k ∧ wr.ownsRow w3.heap.size 68 2 v k (chV vs (fun j => sumR x (selM S j)) k) ∧ (∀ j, j < k → StabV wr (vs j) (selM S j) v ∧ (vs j).oneCell' = true) ∧ Ext w3 wr) (fun _ i _ => N - (intOf i).toNat)
      case atStart => exact ⟨_, 0, fun _ => undef, rfl, Nat.zero_le _, rfl, World.ownsRow_nil _ _ _ _, fun j hj => by omega, Ext.refl w3⟩
      case round =>
        obtain ⟨cv, k, vs, hcv, hk, rfl, hr, hst, hx⟩ := hrel
        subst hcv
        obtain ⟨wo, rfl⟩ : ∃ wo : World, wo = wr := ⟨_, rfl⟩
        have HR := Lib.hid hr; clear hr
        have HST := Lib.hid hst; clear hst
        by_cases hkN : k < N
        · have hkN' : (k : Int) < (N : Int) := by omega
          go_wp2_with fail
          refine (membersOf_c k F _ (by omega) (by omega) (by rw [Nat.div_eq_of_lt]; rw [HN2.out]; exact hkN)).mono ?_
          rintro e w4 ⟨vb, rfl, ob, u4⟩
          obtain ⟨ab, cb, rfl, b1, b2, b3⟩ := ob
          have GB := Lib.hid b3.ints; clear b3
          obtain ⟨K, hK⟩ : ∃ K, (bitsI k F).length = K := ⟨_, rfl⟩
          have hK10 := bitsI_len k F
          rw [hK] at b1 hK10 ⊢
          have HK := Lib.hid hK; clear hK
          have HKB := Lib.hid (show (bitsTo k F).length = K by have := HK.out; unfold bitsI at this; rwa [List.length_map] at this)
          have HX4 := Lib.hid (hx.trans u4)
          have HR4 := Lib.hid (show w4.ownsRow w3.heap.size 68 2 cv k (chV vs (fun j => sumR x (selM S j)) k) from ownsRow_upd HR.out u4 (fun _ _ s => s))
          have HST4 := Lib.hid (fun j (hj : j < k) => (And.intro ((HST.out j hj).1.ext u4) (HST.out j hj).2 : StabV w4 (vs j) (selM S j) cv ∧ (vs j).oneCell' = true))
          have HVB := Lib.hid (fun b (hb : cv.ownBlock = some b) => World.ownsRow.lt HR4.out b hb)
          have HF1 := Lib.hid (show w1.heap.size ≤ w3.heap.size from HU3.out.size)
          clear HR HST u4 hx
          go_wp2_with fail
          go_loopw [13, 56] (fun c i wr => ∃ (cc : Value) (t : Nat), cc = c ∧ t ≤ K ∧ i = .int .i64 t ∧ wr.ownsRow w4.heap.size 36 1 c t (((bitsTo k F).take t).map fun j => rvAt rvs j) ∧ Ext w4 wr) (fun _ i _ => K - (intOf i).toNat)
          case atStart => exact ⟨_, 0, rfl, Nat.zero_le _, rfl, World.ownsRow_nil _ _ _ _, Ext.refl w4⟩
          case round =>
            obtain ⟨cc, t, hcc, ht, rfl, hr, hx⟩ := hrel
            subst hcc
            obtain ⟨wi, rfl⟩ : ∃ wi : World, wi = wr := ⟨_, rfl⟩
            have HR := Lib.hid hr; clear hr
            by_cases htK : t < K
            · have htK' : (t : Int) < (K : Int) := by omega
              obtain ⟨j, hj⟩ : ∃ j, (bitsTo k F).getD t 0 = j := ⟨_, rfl⟩
              have htb : t < (bitsTo k F).length := by rw [HKB.out]; exact htK
              have hj2 : (bitsTo k F)[t] = j := by rw [← hj]; simp [List.getD, htb]
              have hjF : j < F := (bitsTo_mem.1 (by rw [← hj2]; exact List.getElem_mem htb)).1
              have hij : ix (bitsI k F) t = (j : Int) := by
                rw [ix_eq (by rw [HK.out]; exact htK)]
                simp [bitsI, hj2]
              have HTK := Lib.hid (show ((bitsTo k F).take (t + 1)).map (fun j => rvAt rvs j) = ((bitsTo k F).take t).map (fun j => rvAt rvs j) ++ [rvAt rvs j] by
                rw [List.take_add_one, List.map_append]; simp [htb, hj2])
              obtain ⟨b2, o2, rfl, hc0⟩ := (GB.out.ext hx) t (by rw [HK.out]; exact htK)
              rw [hij] at hc0
              clear hij hj hj2 htb
              have hga := (HGA.out.ext HU3.out).ext (HX4.out.trans hx)
              have hjl : j < (freeL S).length := by rw [HFF.out]; exact hjF
              obtain ⟨b3, o3, rfl, l1, l2, l3, hc1, hf1⟩ := hga.at_ hjl
              obtain ⟨ar, cr, ev, s1, s2⟩ := hga.rowForm hjl
              have h2l : (rowAt (freeL S) j).length = 2 := by
                obtain ⟨p, q, _, _, e⟩ := free_places HRS.out _ (rowAt_mem hjl)
                rw [e]; rfl
              rw [h2l] at ev s1
              rw [ev] at hc1 HTK
              clear hga h2l hf1 s2 ev hjl
              have hjF' : (j : Int) < (F : Int) := by omega
              obtain ⟨zs, hzs⟩ : ∃ zs, ((bitsTo k F).take t).map (fun j => rvAt rvs j) = zs := ⟨_, rfl⟩
              rw [hzs] at HTK HR
              clear hzs
              have HOWN := Lib.hid (ownsRow_upd HR.out ((Ext.refl wi).alloc (.cells #[.slice ar 2 cr] 36)) (fun _ _ s => s))
              have hs := hx.size
              go_wp2_with (at_builtin; go_loud (refine app1 _ rfl _ _ 22 36 rfl (.slice none 0 0) 24 Try.underlying22 info_ints rfl w4.heap.size _ t zs rfl HOWN.out wi.heap.size 1 36 (.slice ar 2 cr) rfl (Box.new _ _ _ rfl) rfl (by omega) (by omega) (by simp; omega) ?_))
              intro g cp w5 hown5 hgrow hat hlt5
              have HX5 := Lib.hid ((hx.alloc (.cells #[.slice ar 2 cr] 36)).of_upd (Upd.of_grown hgrow) (fun b hb => (World.ownsRow.lt HOWN.out b hb).1))
              have HO5 := Lib.hid hown5; clear hown5 hgrow
              go_wp2
              go_roundw
              case rel => exact ⟨_, t + 1, rfl, by omega, by go_num, by rw [HTK.out]; exact HO5.out, HX5.out⟩
              case measure => simp [intOf]; omega
            · have htK' : ¬ ((t : Int) < (K : Int)) := by omega
              have hte : t = K := by omega
              subst hte
              have HFUL := Lib.hid (show (bitsTo k F).take t = bitsTo k F from List.take_of_length_le (by rw [HKB.out]; exact Nat.le_refl _))
              have HSL := Lib.hid (show (selM S k).length = t by unfold selM cellsM; rw [List.length_map, HFF.out, HKB.out])
              rw [HFUL.out] at HR
              have HSTN := Lib.hid (show StabV wi cc (selM S k) cv from fun w' u => by
                refine Grid.of_row (lo := w4.heap.size) (rs := (bitsTo k F).map fun j => rvAt rvs j) ?_ (fun q hq => ?_)
                · have h9 := ownsRow_upd HR.out u (fun b hb hs => by
                    have a1 := (World.ownsRow.lt HR.out b hb).1
                    have a2 := (HVB.out b hs).2
                    omega)
                  rw [HSL.out]
                  exact h9
                · have hq2 : q < (bitsTo k F).length := by rw [HKB.out]; rw [HSL.out] at hq; exact hq
                  have hjF : (bitsTo k F)[q] < F := (bitsTo_mem.1 (List.getElem_mem hq2)).1
                  have e1 : rvAt ((bitsTo k F).map fun j => rvAt rvs j) q = rvAt rvs (bitsTo k F)[q] := by simp [rvAt, List.getD, hq2]
                  have e2 : rowAt (selM S k) q = rowAt (freeL S) (bitsTo k F)[q] := by
                    rw [rowAt_eq hq]
                    unfold selM cellsM
                    simp [HFF.out]
                  rw [e1, e2]
                  have ho := (HGA.out.row _ (show (bitsTo k F)[q] < (freeL S).length by rw [HFF.out]; exact hjF)).ext (HU3.out.trans (HX4.out.trans hx))
                  exact (ho.upd u (fun hne hs => by
                    have a1 := (ho.range hne).2
                    have a2 := (HVB.out _ hs).1
                    have a3 := HF1.out
                    omega)).ints)
              obtain ⟨ac, xc, rfl⟩ : ∃ ac xc, cc = .slice ac t xc := by
                rcases HR.out.2 with ⟨h8, h9⟩ | ⟨g, cp, cur, h8, _⟩
                · exact ⟨none, 0, by rw [h8, h9]⟩
                · exact ⟨_, _, h8⟩
              have hxw := HU.out.trans (HU3.out.trans (HX4.out.trans hx))
              have HRC := Lib.hid (ownsRow_upd HR4.out hx (fun _ _ s => s))
              have HSTL := Lib.hid (fun j (hj : j < k) => (And.intro ((HST4.out j hj).1.ext hx) (HST4.out j hj).2 : StabV wi (vs j) (selM S j) cv ∧ (vs j).oneCell' = true))
              have HXI := Lib.hid (HX4.out.trans hx)
              clear HST4 HR4 HR hx
              go_wp2_with fail
              refine (valueOfCells_c _ _ x (selM S k) n m _ (H1.out.ext hxw) (HSTN.out _ (Upd.refl _)) HRX.out (sel_places HRS.out k) (by rw [HSL.out]; omega) (by omega) HXB.out).mono ?_
              rintro e w6 ⟨rfl, d6⟩
              obtain ⟨V, hV⟩ : ∃ V, sumR x (selM S k) = V := ⟨_, rfl⟩
              rw [hV]
              have HV := Lib.hid hV; clear hV
              have HU6 := Lib.hid (d6.ext.alloc (.cells #[.slice ac t xc, .int .i64 V] 68)); clear d6
              have HOWN := Lib.hid (ownsRow_upd HRC.out HU6.out (fun _ _ s => s))
              have hs6 := (HXI.out.trans HU6.out).size
              go_wp2_with (at_builtin; go_loud (refine appCh _ rfl _ _ 65 68 rfl (.agg #[.slice none 0 0, .int .i64 0]) 2 32 Try.underlying65 info_choice rfl (by decide) w3.heap.size _ k _ rfl HOWN.out w6.heap.size 1 68 [.slice ac t xc, .int .i64 V] rfl (Box.new _ _ _ rfl) rfl (by simp [Value.oneCell']) (by omega) (by omega) (by simp at hs6 ⊢; omega) ?_))
              intro g cp w7 hown7 hgrow hat hlt7
              have HX7 := Lib.hid ((HXI.out.trans HU6.out).of_upd (Upd.of_grown hgrow) (fun b hb => (World.ownsRow.lt HOWN.out b hb).1))
              have hat2 : cv.ownBlock = some g ∨ g = (w6.alloc (.cells #[.slice ac t xc, .int .i64 V] 68)).heap.size := hat.imp id (fun e => by simpa using e)
              have HSJ := Lib.hid (fun j (hj : j < k) => ((HSTL.out j hj).1.ext HU6.out).app hgrow (g := g) (n := k + 1) (cap := cp) hat2)
              have HSK := Lib.hid ((HSTN.out.ext HU6.out).app hgrow (g := g) (n := k + 1) (cap := cp) hat2)
              have HO7 := Lib.hid hown7; clear hown7 hgrow
              go_wp2
              go_roundw
              case rel => exact ⟨_, k + 1, fun j => if j = k then .slice ac t xc else vs j, rfl, by omega, by go_num, by
                have e := chV_congr (vs := vs) (vs' := fun j => if j = k then .slice ac t xc else vs j) (fun j => sumR x (selM S j)) k (fun j hj => by simp [Nat.ne_of_lt hj])
                rw [chV, ← e, HV.out]
                simpa using HO7.out, fun j hj => by
                by_cases e : j = k
                · subst e
                  simp only [if_true]
                  exact ⟨HSK.out, rfl⟩
                · simp only [if_neg e]
                  exact ⟨HSJ.out j (by omega), (HSTL.out j (by omega)).2⟩, HX7.out⟩
              case measure => simp [intOf]; omega
        · have hke : k = N := by omega
          subst hke
          have hkN' : ¬ ((k : Int) < (k : Int)) := by omega
          have hro := HR.out
          obtain ⟨g, cp, hcv⟩ : ∃ g cp, cv = .slice (some ⟨g, 0, none⟩) k cp := by
            rcases hro.2 with ⟨_, h9⟩ | ⟨g, cp, cur, h8, _⟩
            · omega
            · exact ⟨g, cp, h8⟩
          subst hcv
          have hgl := World.ownsRow.lt hro g rfl
          haveI : Inhabited (Fin k) := ⟨⟨0, hN0⟩⟩
          have hsort := sort_c x S n m k HRS.out vs g 0 cp (Array.ofFn fun a : Fin k => a) wo (fun j hj => (HST.out j hj).2) (fun w' u j hj => (HST.out j hj).1 w' (u.mono (fun b _ hb => by subst hb; rfl))) (holds_choices hro hN0) hgl.2 (by simp; omega)
          rw [Array.size_ofFn] at hsort
          have HSORT := Lib.hid hsort; clear hsort hro
          have HHI := Lib.hid (show ∀ w', Upd (fun b => b = g) wo w' → ∀ j, j < k → Grid w' (vs j) (selM S j) from fun w' u j hj => (HST.out j hj).1 w' (u.mono (fun b _ hb => by subst hb; rfl)))
          have HV1 := Lib.hid (fun j (hj : j < k) => (HST.out j hj).2)
          have HXO := Lib.hid hx
          clear HST HR hx
          go_wp2_with fail
          refine HSORT.out.mono ?_
          rintro e w5 ⟨rfl, d, hs, hp, ho, hH, hu⟩
          clear HSORT
          have HD := Lib.hid (And.intro hs (And.intro hp ho)); clear hs hp ho
          have HHK := Lib.hid hH; clear hH
          have HX5 := Lib.hid (HXO.out.of_upd hu (fun b hb => by subst hb; exact hgl.1))
          have HG5 := Lib.hid (fun j (hj : j < k) => HHI.out w5 hu j hj)
          clear HXO HHI hu
          go_wp2_with fail
          go_loopw [81] (fun i wr => ∃ p : Nat, p ≤ k ∧ i = .int .i64 p ∧ (∀ q, q < p → safeM x S down up (d[q]!).val = false) ∧ Ext w5 wr) (fun i _ => k - (intOf i).toNat)
          case atStart => exact ⟨0, Nat.zero_le _, rfl, fun q hq => by omega, Ext.refl w5⟩
          case round =>
            obtain ⟨p, hp, rfl, h0, hx⟩ := hrel
            obtain ⟨wi, rfl⟩ : ∃ wi : World, wi = wr := ⟨_, rfl⟩
            have HH0 := Lib.hid h0; clear h0
            by_cases hpk : p < k
            · have hpk' : (p : Int) < (k : Int) := by omega
              obtain ⟨a, ha⟩ : ∃ a : Fin k, d[p]! = a := ⟨_, rfl⟩
              obtain ⟨ao, co, eV, z1, z2, z3⟩ := HG5.out a.val a.isLt
              have hds : p < d.size := by rw [HD.out.1]; simpa using hpk
              have c0 := Ext.cell hx (HoldsK.cells HHK.out (fun _ => rfl) hds 0 (vs a.val) (by rw [ha]; rfl))
              have c1 := Ext.cell hx (HoldsK.cells HHK.out (fun _ => rfl) hds 1 (.int .i64 (sumR x (selM S a.val))) (by rw [ha]; rfl))
              rw [eV] at c0
              simp only [Addr.add_lit, Nat.zero_add, Nat.add_zero] at c0 c1
              clear z3
              have hw9 := HU.out.trans (HU3.out.trans (HX5.out.trans hx))
              have HGC := Lib.hid (show Grid wi (.slice ao (selM S a.val).length co) (selM S a.val) from by
                have h9 := (HG5.out a.val a.isLt).ext hx
                rwa [eV] at h9)
              have HDN := Lib.hid (show (∀ q, q < p → safeM x S down up (d[q]!).val = false) from HH0.out)
              have HAE := Lib.hid ha; clear ha eV z1 z2 hds
              have HCL := Lib.hid (show (selM S a.val).length ≤ 64 by have h9 := cellsM_len (freeL S) a.val; rw [HFF.out] at h9; unfold selM; omega)
              obtain ⟨V, hV⟩ : ∃ V, sumR x (selM S a.val) = V := ⟨_, rfl⟩
              rw [hV] at c1
              have HVV := Lib.hid hV; clear hV
              obtain ⟨L, hL⟩ : ∃ L, (selM S a.val).length = L := ⟨_, rfl⟩
              rw [hL] at c0 HGC
              have HLL := Lib.hid hL; clear hL
              have BX := Lib.hid (Box.new wi 68 #[.slice ao L co, .int .i64 V] rfl)
              have UB := Lib.hid ((Ext.refl wi).alloc (.cells #[.slice ao L co, .int .i64 V] 68))
              go_wp2_with fail
              refine (with_c _ _ S (selM S a.val) n m _ (H2.out.ext (hw9.trans UB.out)) (HGC.out.ext UB.out) HRS.out hd (sel_places HRS.out a.val) HCL.out).mono ?_
              rintro e w6 ⟨v6, rv6, rfl, o6, u6⟩
              have HO6 := Lib.hid o6; clear o6
              have HX6 := Lib.hid (UB.out.trans u6)
              have BX6 := Lib.hid (BX.out.ext u6); clear u6
              obtain ⟨sb, hsb⟩ : ∃ sb, safeM x S down up a.val = sb := ⟨_, rfl⟩
              have HSB := Lib.hid hsb; clear hsb
              go_wp2_with fail
              refine (protects_b sb x (setCells S (selM S a.val)) S _ _ _ down up _ HSB.out (inp_setCells _ HIN.out (by rw [HN.out, HM.out]; exact sel_places HRS.out a.val)) HL.out (H1.out.ext (hw9.trans HX6.out)) HO6.out.grid (H2.out.ext (hw9.trans HX6.out))).mono ?_
              rintro e w7 ⟨rfl, u7⟩
              cases sb
              · go_wp2_with fail
                go_roundw
                case rel => exact ⟨p + 1, by omega, by go_num, fun q hq => by
                  by_cases e : q = p
                  · subst e; rw [HAE.out]; exact HSB.out
                  · exact HDN.out q (by omega), hx.trans (HX6.out.trans u7)⟩
                case measure => simp [intOf]; omega
              · have HLE := Lib.hid (show lpO x S down up = some a.val by
                  have h9 := sorted_least (x := x) (safe := safeM x S down up) HRS.out HNN.out (by rw [HD.out.1]) HD.out.2.1 HD.out.2.2 hpk HDN.out (by rw [HAE.out]; exact HSB.out)
                  rw [HAE.out] at h9
                  exact HO.out.trans h9)
                have HLB := Lib.hid (show lpB x S down up = true by unfold lpB; rw [HLE.out]; rfl)
                have HLV := Lib.hid (show lpV x S down up = ⟨setCells S (selM S a.val), (L : Int), V⟩ by unfold lpV; rw [HLE.out]; show Pl.mk _ _ _ = _; rw [HLL.out, HVV.out])
                obtain ⟨a6, c6, rfl, l4, l5, l6⟩ := HO6.out
                have hlen := (setCells_rc (selM S a.val) HRS.out).len
                have HO7 := Lib.hid (((show OwnG _ w6.heap.size w6 (.slice a6 n c6) rv6 (setCells S (selM S a.val)) from ⟨a6, c6, by rw [hlen], l4, l5, l6⟩).ext u7).mono (Nat.le_refl _) u7.size)
                rw [hlen] at l4 ⊢
                clear l6 hlen
                have b7 := BX6.out.ext u7
                have k0 := b7.cell 0 (by simp)
                have k1 := b7.cell 1 (by simp)
                have br := ((HB0.out.ext HAX.out).ext HU3.out).ext ((HX5.out.trans hx).trans (HX6.out.trans u7))
                have q0 := br.cell 0 (by simp)
                have q1 := br.cell 1 (by simp)
                have q2 := br.cell 2 (by simp)
                have z0 := br.free 0
                have z1 := br.free 1
                have z2 := br.free 2
                have hE := hw9.trans (HX6.out.trans u7)
                have hlt4 : w.heap.size < (wi.alloc (.cells #[.slice ao L co, .int .i64 V] 68)).heap.size := by have := (HAX.out.trans (HU3.out.trans (HX5.out.trans (hx.trans UB.out)))).size; have := HSZ.out; omega
                clear br b7
                go_wp2
                refine bodyPost_ret (v := .tuple #[.agg #[.slice a6 n c6, .int .i64 L, .int .i64 V], .bool true]) (by simp [results, Try.results19, go_sem, q0, q1, q2]) rfl ⟨_, by rw [HLB.out], ?_, ((hE.setCell _ (Nat.le_refl _)).setCell _ (Nat.le_refl _)).setCell _ (Nat.le_refl _)⟩
                rw [HLV.out]
                exact ⟨_, _, _, rv6, rfl, (((HO7.out.put_away ⟨w.heap.size, 0, none⟩ (.slice a6 n c6) (.inl hlt4)).put_away ⟨w.heap.size, 1, none⟩ (.int .i64 L) (.inl hlt4)).put_away ⟨w.heap.size, 2, none⟩ (.int .i64 V) (.inl hlt4)).mono (Nat.le_of_lt hlt4) (by simp [World.setCell]), rfl, rfl⟩
            · have hpk' : ¬ ((p : Int) < (k : Int)) := by omega
              have hpe : p = k := by omega
              have hO := Lib.hid (HOFF.out (by rw [HO.out]; exact sorted_none (by rw [HD.out.1]) HD.out.2.1 (fun i hi => HH0.out i (by omega))))
              have hE := HU.out.trans (HU3.out.trans (HX5.out.trans hx))
              have br := ((HB0.out.ext HAX.out).ext HU3.out).ext (HX5.out.trans hx)
              have q0 := br.cell 0 (by simp)
              have q1 := br.cell 1 (by simp)
              have q2 := br.cell 2 (by simp)
              have z0 := br.free 0
              have z1 := br.free 1
              have z2 := br.free 2
              clear br
              go_wp2
              refine bodyPost_ret (v := .tuple #[.agg #[.slice none 0 0, .int .i64 0, .int .i64 0], .bool false]) (by simp [results, Try.results19, go_sem, q0, q1, q2]) rfl ⟨_, by rw [hO.out.1], by rw [hO.out.2]; exact nothing _, ?_⟩
              first | exact hE | exact ((hE.setCell _ (Nat.le_refl _)).setCell _ (Nat.le_refl _)).setCell _ (Nat.le_refl _)
  · have hF10' : (10 : Int) < (F : Int) := by omega
    have hF10'' : decide ((10 : Int) < (F : Int)) = true := by simp; omega
    have hO := Lib.hid (HOFF.out (by
      unfold lpO
      rw [if_neg]
      rintro ⟨_, h9⟩
      rw [hF] at h9; exact hF10 h9))
    have hE := HU.out
    have br := HB0.out.ext HAX.out
    have q0 := br.cell 0 (by simp)
    have q1 := br.cell 1 (by simp)
    have q2 := br.cell 2 (by simp)
    have z0 := br.free 0
    have z1 := br.free 1
    have z2 := br.free 2
    clear br
    go_wp2
    refine bodyPost_ret (v := .tuple #[.agg #[.slice none 0 0, .int .i64 0, .int .i64 0], .bool false]) (by simp [results, Try.results19, go_sem, q0, q1, q2]) rfl ⟨_, by rw [hO.out.1], by rw [hO.out.2]; exact nothing _, ?_⟩
    first | exact hE | exact ((hE.setCell _ (Nat.le_refl _)).setCell _ (Nat.le_refl _)).setCell _ (Nat.le_refl _)
end Go.Proofs.Ytodnkahnbidgaaa
namespace Go.Proofs.Ytodnkahnbidgaaa
open Go.RowKit

theorem lpV_small (x S : List (List Int)) (down up : Int) : PlSmall (lpV x S down up) := by
  unfold lpV
  cases h : lpO x S down up with
  | none => exact Small.of_rows8 (by simp [lpOf]) (fun k hk => by simp [lpOf] at hk)
  | some a =>
    unfold lpO at h
    split at h
    · rename_i hc
      have hp : pubB x S = true := by have := hc.1; simp only [cpB, Bool.and_eq_true] at this; exact this.1
      have hr := setCells_rc (selM S a) (pat_rc hp)
      have hd := atk_dims hp
      exact Small.of_rows8 (xss := setCells S (selM S a)) (by rw [hr.len]; omega) (fun k hk => by rw [hr.row k (by rw [← hr.len]; exact hk)]; omega)
    · cases h

set_option maxHeartbeats 3200000 in
theorem lawLeastPlan_c (v0 : Value) (xs0 : List (List Int)) (v1 : Value) (xs1 : List (List Int)) (a2 : Int) (a3 : Int) (w : World) (h0 : Grid w v0 xs0) (h1 : Grid w v1 xs1) (_ : WfG xs0) (_ : WfG xs1) (i2 : -9223372036854775808 ≤ a2 ∧ a2 ≤ 9223372036854775807) (i3 : -9223372036854775808 ≤ a3 ∧ a3 ≤ 9223372036854775807) :
    Calls Try.prog 5 #[v0, v1, .int .i64 a2, .int .i64 a3] w fun e w' => e = .returned (.bool true) ∧ Ext w w' := by
  have H0 := Lib.hid h0; clear h0
  have H1 := Lib.hid h1; clear h1
  have I2 := Lib.hid i2; clear i2
  have I3 := Lib.hid i3; clear i3
  have v0 := (Ext.refl w)
  obtain ⟨V0, hV0⟩ : ∃ V, lpV xs0 xs1 a2 a3 = V := ⟨_, rfl⟩
  have HV0 := Lib.hid hV0; clear hV0
  obtain ⟨V1, hV1⟩ : ∃ V, lpB xs0 xs1 a2 a3 = V := ⟨_, rfl⟩
  have HV1 := Lib.hid hV1; clear hV1
  have qv1 : (V1 != V1) = false := by simp
  go_enter Try.func5, Try.ntmps5
  obtain ⟨t0, ht0⟩ : ∃ t, szG 1048576 xs0 = t := ⟨_, rfl⟩
  have T0 := Lib.hid ht0; clear ht0
  go_wp2_with fail
  refine (szIntSS_c _ xs0 1048576 _ (H0.out.ext v0) (by omega)).mono ?_
  rw [T0.out]
  rintro e w' ⟨rfl, rfl⟩
  by_cases hz0 : t0 < 0
  · go_wp2
    go_ret
    exact ⟨rfl, v0⟩
  have tr0 : 0 ≤ t0 ∧ t0 ≤ 1048576 := by have h1 := T0.out; have h2 := szG_range (left := 1048576) (xss := xs0) (by omega); omega
  have S0 := Lib.hid (Small.of_szG (left := 1048576) (xss := xs0) (by omega) (by have h1 := T0.out; omega))
  obtain ⟨t1, ht1⟩ : ∃ t, szG t0 xs1 = t := ⟨_, rfl⟩
  have T1 := Lib.hid ht1; clear ht1
  go_wp2_with fail
  refine (szIntSS_c _ xs1 t0 _ (H1.out.ext v0) (by omega)).mono ?_
  rw [T1.out]
  rintro e w' ⟨rfl, rfl⟩
  by_cases hz1 : t1 < 0
  · go_wp2
    go_ret
    exact ⟨rfl, v0⟩
  have tr1 : 0 ≤ t1 ∧ t1 ≤ 1048576 := by have h1 := T1.out; have h2 := szG_range (left := t0) (xss := xs1) (by omega); omega
  have S1 := Lib.hid (Small.of_szG (left := t0) (xss := xs1) (by omega) (by have h1 := T1.out; omega))
  obtain ⟨k0, hk0⟩ : ∃ k, 1 + (psum xs0 xs0.length : Int) = k := ⟨_, rfl⟩
  have kb0 : 1 ≤ k0 ∧ k0 ≤ 1048577 := by have h1 := S0.out.psum xs0.length (Nat.le_refl _); omega
  have HK0 := Lib.hid hk0; clear hk0
  obtain ⟨k1, hk1⟩ : ∃ k, k0 + (psum xs1 xs1.length : Int) = k := ⟨_, rfl⟩
  have kb1 : 1 ≤ k1 ∧ k1 ≤ 2097153 := by have h1 := S1.out.psum xs1.length (Nat.le_refl _); omega
  have HK1 := Lib.hid hk1; clear hk1
  have kn : ¬ (k1 < 0) := by omega
  have kd : decide (k1 < 0) = false := by simp; omega
  have RS0 := Lib.hid (show PlSmall V0 by rw [← HV0.out]; exact lpV_small _ _ _ _)
  obtain ⟨m0, hm0⟩ : ∃ m, 1 + PlSize V0 = m := ⟨_, rfl⟩
  have mb0 : 1 ≤ m0 ∧ m0 ≤ 4194305 := by have h1 := RS0.out.size; omega
  have HM0 := Lib.hid hm0; clear hm0
  have mn0 : ¬ (m0 < 0) := by omega
  have md0 : decide (m0 < 0) = false := by simp; omega
  have mq : (m0 != m0) = false := by simp
  go_wp2_with fail
  refine (toIntSS_c _ xs0 _ (H0.out.ext v0) S0.out.len S0.out.row).mono ?_
  rintro e w3 ⟨x3, r3, rfl, o3, u3⟩
  have v3 := v0.trans u3
  have SZ3 := Lib.hid u3.size
  have O3 := Lib.hid o3
  clear o3
  have RS_3 := Lib.hid u3.size
  go_wp2_with fail
  refine (toIntSS_c _ xs1 _ (H1.out.ext v3) S1.out.len S1.out.row).mono ?_
  rintro e w4 ⟨x4, r4, rfl, o4, u4⟩
  have v4 := v3.trans u4
  have SZ4 := Lib.hid u4.size
  have O4 := Lib.hid o4
  clear o4
  have RS_4 := Lib.hid u4.size
  go_wp2_with fail
  refine (specLp_c _ xs0 _ xs1 a2 a3 _ (O3.out.ext u4).grid O4.out.grid ).mono ?_
  rw [HV0.out]
  rw [HV1.out]
  rintro e w5 ⟨x5, rfl, o5, u5⟩
  have v5 := v4.trans u5
  have SZ5 := Lib.hid u5.size
  have O5 := Lib.hid o5
  clear o5
  have RS_5 := Lib.hid u5.size
  obtain ⟨a5_0, cp5_0, hxx5, _⟩ := O5.out.read.form
  subst hxx5
  have bo5 := Box.new w5 30 #[.slice a5_0 V0.cells.length cp5_0, .int .i64 V0.hidden, .int .i64 V0.total] rfl
  have u6 := (Ext.refl w5).alloc (.cells #[.slice a5_0 V0.cells.length cp5_0, .int .i64 V0.hidden, .int .i64 V0.total] 30)
  have v6 := v5.trans u6
  have SZ6 := Lib.hid u6.size
  have SA6 : Hid ((w5.alloc (.cells #[.slice a5_0 V0.cells.length cp5_0, .int .i64 V0.hidden, .int .i64 V0.total] 30)).heap.size = w5.heap.size + 1) := Lib.hid (by simp)
  go_wp2_with fail
  refine (toIntSS_c _ xs0 _ (H0.out.ext v6) S0.out.len S0.out.row).mono ?_
  rintro e w7 ⟨x7, r7, rfl, o7, u7⟩
  have v7 := v6.trans u7
  have SZ7 := Lib.hid u7.size
  have O7 := Lib.hid o7
  clear o7
  have RS_7 := Lib.hid u7.size
  go_wp2_with fail
  refine (toIntSS_c _ xs1 _ (H1.out.ext v7) S1.out.len S1.out.row).mono ?_
  rintro e w8 ⟨x8, r8, rfl, o8, u8⟩
  have v8 := v7.trans u8
  have SZ8 := Lib.hid u8.size
  have O8 := Lib.hid o8
  clear o8
  have RS_8 := Lib.hid u8.size
  go_wp2_with fail
  refine (implLp_c _ xs0 _ xs1 a2 a3 _ (O7.out.ext u8).grid O8.out.grid ).mono ?_
  rw [HV0.out]
  rw [HV1.out]
  rintro e w9 ⟨x9, rfl, o9, u9⟩
  have v9 := v8.trans u9
  have SZ9 := Lib.hid u9.size
  have O9 := Lib.hid o9
  clear o9
  have RS_9 := Lib.hid u9.size
  obtain ⟨a9_0, cp9_0, hxx9, _⟩ := O9.out.read.form
  subst hxx9
  have bo9 := Box.new w9 30 #[.slice a9_0 V0.cells.length cp9_0, .int .i64 V0.hidden, .int .i64 V0.total] rfl
  have u10 := (Ext.refl w9).alloc (.cells #[.slice a9_0 V0.cells.length cp9_0, .int .i64 V0.hidden, .int .i64 V0.total] 30)
  have v10 := v9.trans u10
  have SZ10 := Lib.hid u10.size
  have SA10 : Hid ((w9.alloc (.cells #[.slice a9_0 V0.cells.length cp9_0, .int .i64 V0.hidden, .int .i64 V0.total] 30)).heap.size = w9.heap.size + 1) := Lib.hid (by simp)
  have bx11 := bo9
  have cx11_0 := bx11.cell 0 (by simp)
  have cx11_1 := bx11.cell 1 (by simp)
  have cx11_2 := bx11.cell 2 (by simp)
  have bx12 := ((((bo5.ext u7).ext u8).ext u9).ext u10)
  have cx12_0 := bx12.cell 0 (by simp)
  have cx12_1 := bx12.cell 1 (by simp)
  have cx12_2 := bx12.cell 2 (by simp)
  go_wp2_with fail
  refine (eqPlan_t _ _ V0 _ (O9.out.ext u10).read (((((O5.out.ext u6).ext u7).ext u8).ext u9).ext u10).read).mono ?_
  rintro e w13 ⟨rfl, u13⟩
  have v13 := v10.trans u13
  have SZ13 := Lib.hid u13.size
  go_wp2_with fail
  refine (toIntSS_c _ xs0 _ (H0.out.ext v13) S0.out.len S0.out.row).mono ?_
  rintro e w14 ⟨x14, r14, rfl, o14, u14⟩
  have v14 := v13.trans u14
  have SZ14 := Lib.hid u14.size
  have O14 := Lib.hid o14
  clear o14
  have RS_14 := Lib.hid u14.size
  go_wp2_with fail
  refine (eqIntSS_b true _ _ xs0 xs0 _ (by simp) (((((O7.out.ext u8).ext u9).ext u10).ext u13).ext u14).grid O14.out.grid).mono ?_
  rintro e w15 ⟨rfl, d15⟩
  have u15 := Drew.ext d15
  have v15 := v14.trans u15
  have SZ15 := Lib.hid u15.size
  go_wp2_with fail
  refine (toIntSS_c _ xs1 _ (H1.out.ext v15) S1.out.len S1.out.row).mono ?_
  rintro e w16 ⟨x16, r16, rfl, o16, u16⟩
  have v16 := v15.trans u16
  have SZ16 := Lib.hid u16.size
  have O16 := Lib.hid o16
  clear o16
  have RS_16 := Lib.hid u16.size
  go_wp2_with fail
  refine (eqIntSS_b true _ _ xs1 xs1 _ (by simp) ((((((O8.out.ext u9).ext u10).ext u13).ext u14).ext u15).ext u16).grid O16.out.grid).mono ?_
  rintro e w17 ⟨rfl, d17⟩
  have u17 := Drew.ext d17
  have v17 := v16.trans u17
  have SZ17 := Lib.hid u17.size
  go_wp2_with fail
  refine (markIntSS_c _ _ _ _ xs0 1 _ ((((((((O7.out.ext u8).ext u9).ext u10).ext u13).ext u14).ext u15).ext u16).ext u17) S0.out.row S0.out.psum (by omega)).mono ?_
  rw [HK0.out]
  rintro e w18 ⟨rfl, ⟨ys18, o18, mk18⟩, u18⟩
  have OM18 := Lib.hid o18; clear o18
  have MK18 := Lib.hid mk18; clear mk18
  have U18 := Lib.hid u18; clear u18
  have RG18 : Hid (∀ b, rowBlks r7 xs0 b → _ ∧ b < _) := Lib.hid (fun b hb => by have := O7.out.blks hb; exact ⟨this.1, this.2.1⟩)
  have v18 := v17.of_upd U18.out (fun b hb => by have := RG18.out b hb; have := SZ3.out; have := SZ4.out; have := SZ5.out; have := SZ6.out; have := SA6.out; have := SZ7.out; have := SZ8.out; have := SZ9.out; have := SZ10.out; have := SA10.out; have := SZ13.out; have := SZ14.out; have := SZ15.out; have := SZ16.out; have := SZ17.out; omega)
  have SZ18 := Lib.hid U18.out.size
  go_wp2_with fail
  refine (markIntSS_c _ _ _ _ xs1 k0 _ ((((((((O8.out.ext u9).ext u10).ext u13).ext u14).ext u15).ext u16).ext u17).away U18.out (fun b hb => by have := RG18.out b hb; have := RS_7.out; have := RS_8.out; have := SZ3.out; have := SZ4.out; have := SZ5.out; have := SZ6.out; have := SA6.out; have := SZ7.out; have := SZ8.out; have := SZ9.out; have := SZ10.out; have := SA10.out; have := SZ13.out; have := SZ14.out; have := SZ15.out; have := SZ16.out; have := SZ17.out; have := SZ18.out; omega)) S1.out.row S1.out.psum (by omega)).mono ?_
  rw [HK1.out]
  rintro e w19 ⟨rfl, ⟨ys19, o19, mk19⟩, u19⟩
  have OM19 := Lib.hid o19; clear o19
  have MK19 := Lib.hid mk19; clear mk19
  have U19 := Lib.hid u19; clear u19
  have RG19 : Hid (∀ b, rowBlks r8 xs1 b → _ ∧ b < _) := Lib.hid (fun b hb => by have := O8.out.blks hb; exact ⟨this.1, this.2.1⟩)
  have v19 := v18.of_upd U19.out (fun b hb => by have := RG19.out b hb; have := SZ3.out; have := SZ4.out; have := SZ5.out; have := SZ6.out; have := SA6.out; have := SZ7.out; have := SZ8.out; have := SZ9.out; have := SZ10.out; have := SA10.out; have := SZ13.out; have := SZ14.out; have := SZ15.out; have := SZ16.out; have := SZ17.out; have := SZ18.out; omega)
  have SZ19 := Lib.hid U19.out.size
  have bx20 := (((((((bo9.ext u13).ext u14).ext u15).ext u16).ext u17).upd U18.out (fun hb => by have := RG18.out _ hb; have := RS_7.out; have := SZ3.out; have := SZ4.out; have := SZ5.out; have := SZ6.out; have := SA6.out; have := SZ7.out; have := SZ8.out; have := SZ9.out; have := SZ10.out; have := SA10.out; have := SZ13.out; have := SZ14.out; have := SZ15.out; have := SZ16.out; have := SZ17.out; have := SZ18.out; have := SZ19.out; omega)).upd U19.out (fun hb => by have := RG19.out _ hb; have := RS_8.out; have := SZ3.out; have := SZ4.out; have := SZ5.out; have := SZ6.out; have := SA6.out; have := SZ7.out; have := SZ8.out; have := SZ9.out; have := SZ10.out; have := SA10.out; have := SZ13.out; have := SZ14.out; have := SZ15.out; have := SZ16.out; have := SZ17.out; have := SZ18.out; have := SZ19.out; omega))
  have cx20_0 := bx20.cell 0 (by simp)
  have cx20_1 := bx20.cell 1 (by simp)
  have cx20_2 := bx20.cell 2 (by simp)
  have bx21 := (((((((((((bo5.ext u7).ext u8).ext u9).ext u10).ext u13).ext u14).ext u15).ext u16).ext u17).upd U18.out (fun hb => by have := RG18.out _ hb; have := RS_7.out; have := SZ3.out; have := SZ4.out; have := SZ5.out; have := SZ6.out; have := SA6.out; have := SZ7.out; have := SZ8.out; have := SZ9.out; have := SZ10.out; have := SA10.out; have := SZ13.out; have := SZ14.out; have := SZ15.out; have := SZ16.out; have := SZ17.out; have := SZ18.out; have := SZ19.out; omega)).upd U19.out (fun hb => by have := RG19.out _ hb; have := RS_8.out; have := SZ3.out; have := SZ4.out; have := SZ5.out; have := SZ6.out; have := SA6.out; have := SZ7.out; have := SZ8.out; have := SZ9.out; have := SZ10.out; have := SA10.out; have := SZ13.out; have := SZ14.out; have := SZ15.out; have := SZ16.out; have := SZ17.out; have := SZ18.out; have := SZ19.out; omega))
  have cx21_0 := bx21.cell 0 (by simp)
  have cx21_1 := bx21.cell 1 (by simp)
  have cx21_2 := bx21.cell 2 (by simp)
  go_wp2_with fail
  refine (eqPlan_t _ _ V0 _ ((((((((O9.out.ext u10).ext u13).ext u14).ext u15).ext u16).ext u17).away U18.out (fun b hb => by have := RG18.out b hb; have := RS_7.out; have := RS_9.out; have := SZ3.out; have := SZ4.out; have := SZ5.out; have := SZ6.out; have := SA6.out; have := SZ7.out; have := SZ8.out; have := SZ9.out; have := SZ10.out; have := SA10.out; have := SZ13.out; have := SZ14.out; have := SZ15.out; have := SZ16.out; have := SZ17.out; have := SZ18.out; have := SZ19.out; omega)).away U19.out (fun b hb => by have := RG19.out b hb; have := RS_8.out; have := RS_9.out; have := SZ3.out; have := SZ4.out; have := SZ5.out; have := SZ6.out; have := SA6.out; have := SZ7.out; have := SZ8.out; have := SZ9.out; have := SZ10.out; have := SA10.out; have := SZ13.out; have := SZ14.out; have := SZ15.out; have := SZ16.out; have := SZ17.out; have := SZ18.out; have := SZ19.out; omega)).read ((((((((((((O5.out.ext u6).ext u7).ext u8).ext u9).ext u10).ext u13).ext u14).ext u15).ext u16).ext u17).away U18.out (fun b hb => by have := RG18.out b hb; have := RS_7.out; have := RS_5.out; have := SZ3.out; have := SZ4.out; have := SZ5.out; have := SZ6.out; have := SA6.out; have := SZ7.out; have := SZ8.out; have := SZ9.out; have := SZ10.out; have := SA10.out; have := SZ13.out; have := SZ14.out; have := SZ15.out; have := SZ16.out; have := SZ17.out; have := SZ18.out; have := SZ19.out; omega)).away U19.out (fun b hb => by have := RG19.out b hb; have := RS_8.out; have := RS_5.out; have := SZ3.out; have := SZ4.out; have := SZ5.out; have := SZ6.out; have := SA6.out; have := SZ7.out; have := SZ8.out; have := SZ9.out; have := SZ10.out; have := SA10.out; have := SZ13.out; have := SZ14.out; have := SZ15.out; have := SZ16.out; have := SZ17.out; have := SZ18.out; have := SZ19.out; omega)).read).mono ?_
  rintro e w22 ⟨rfl, u22⟩
  have v22 := v19.trans u22
  have SZ22 := Lib.hid u22.size
  have bx23 := ((((((((bo9.ext u13).ext u14).ext u15).ext u16).ext u17).upd U18.out (fun hb => by have := RG18.out _ hb; have := RS_7.out; have := SZ3.out; have := SZ4.out; have := SZ5.out; have := SZ6.out; have := SA6.out; have := SZ7.out; have := SZ8.out; have := SZ9.out; have := SZ10.out; have := SA10.out; have := SZ13.out; have := SZ14.out; have := SZ15.out; have := SZ16.out; have := SZ17.out; have := SZ18.out; have := SZ19.out; have := SZ22.out; omega)).upd U19.out (fun hb => by have := RG19.out _ hb; have := RS_8.out; have := SZ3.out; have := SZ4.out; have := SZ5.out; have := SZ6.out; have := SA6.out; have := SZ7.out; have := SZ8.out; have := SZ9.out; have := SZ10.out; have := SA10.out; have := SZ13.out; have := SZ14.out; have := SZ15.out; have := SZ16.out; have := SZ17.out; have := SZ18.out; have := SZ19.out; have := SZ22.out; omega)).ext u22)
  have cx23_0 := bx23.cell 0 (by simp)
  have cx23_1 := bx23.cell 1 (by simp)
  have cx23_2 := bx23.cell 2 (by simp)
  go_wp2_with fail
  refine (markPlan_c _ _ _ V0 1 _ (((((((((O9.out.ext u10).ext u13).ext u14).ext u15).ext u16).ext u17).away U18.out (fun b hb => by have := RG18.out b hb; have := RS_7.out; have := RS_9.out; have := SZ3.out; have := SZ4.out; have := SZ5.out; have := SZ6.out; have := SA6.out; have := SZ7.out; have := SZ8.out; have := SZ9.out; have := SZ10.out; have := SA10.out; have := SZ13.out; have := SZ14.out; have := SZ15.out; have := SZ16.out; have := SZ17.out; have := SZ18.out; have := SZ19.out; have := SZ22.out; omega)).away U19.out (fun b hb => by have := RG19.out b hb; have := RS_8.out; have := RS_9.out; have := SZ3.out; have := SZ4.out; have := SZ5.out; have := SZ6.out; have := SA6.out; have := SZ7.out; have := SZ8.out; have := SZ9.out; have := SZ10.out; have := SA10.out; have := SZ13.out; have := SZ14.out; have := SZ15.out; have := SZ16.out; have := SZ17.out; have := SZ18.out; have := SZ19.out; have := SZ22.out; omega)).ext u22) RS0.out (by omega)).mono ?_
  rw [HM0.out]
  rintro e w24 ⟨rfl, ⟨ys24, o24, mk24⟩, u24⟩
  have OM24 := Lib.hid o24; clear o24
  have MK24 := Lib.hid mk24; clear mk24
  have U24 := Lib.hid u24; clear u24
  have RG24 := Lib.hid (rgOf U24.out)
  have v24 := v22.of_upd U24.out (fun b hb => by have := RG24.out b hb; have := SZ3.out; have := SZ4.out; have := SZ5.out; have := SZ6.out; have := SA6.out; have := SZ7.out; have := SZ8.out; have := SZ9.out; have := SZ10.out; have := SA10.out; have := SZ13.out; have := SZ14.out; have := SZ15.out; have := SZ16.out; have := SZ17.out; have := SZ18.out; have := SZ19.out; have := SZ22.out; omega)
  have SZ24 := Lib.hid U24.out.size
  have bx25 := (((((((((bo9.ext u13).ext u14).ext u15).ext u16).ext u17).upd U18.out (fun hb => by have := RG18.out _ hb; have := RS_7.out; have := SZ3.out; have := SZ4.out; have := SZ5.out; have := SZ6.out; have := SA6.out; have := SZ7.out; have := SZ8.out; have := SZ9.out; have := SZ10.out; have := SA10.out; have := SZ13.out; have := SZ14.out; have := SZ15.out; have := SZ16.out; have := SZ17.out; have := SZ18.out; have := SZ19.out; have := SZ22.out; have := SZ24.out; omega)).upd U19.out (fun hb => by have := RG19.out _ hb; have := RS_8.out; have := SZ3.out; have := SZ4.out; have := SZ5.out; have := SZ6.out; have := SA6.out; have := SZ7.out; have := SZ8.out; have := SZ9.out; have := SZ10.out; have := SA10.out; have := SZ13.out; have := SZ14.out; have := SZ15.out; have := SZ16.out; have := SZ17.out; have := SZ18.out; have := SZ19.out; have := SZ22.out; have := SZ24.out; omega)).ext u22).upd U24.out (fun hb => by have := RG24.out _ hb; have := RS_9.out; have := SZ3.out; have := SZ4.out; have := SZ5.out; have := SZ6.out; have := SA6.out; have := SZ7.out; have := SZ8.out; have := SZ9.out; have := SZ10.out; have := SA10.out; have := SZ13.out; have := SZ14.out; have := SZ15.out; have := SZ16.out; have := SZ17.out; have := SZ18.out; have := SZ19.out; have := SZ22.out; have := SZ24.out; omega))
  have cx25_0 := bx25.cell 0 (by simp)
  have cx25_1 := bx25.cell 1 (by simp)
  have cx25_2 := bx25.cell 2 (by simp)
  go_wp2_with fail
  refine (heldPlan_c _ V0 ys24 1 _ OM24.out.read MK24.out RS0.out (by omega)).mono ?_
  rw [HM0.out]
  rintro e w26 ⟨rfl, u26⟩
  have v26 := v24.trans u26
  have SZ26 := Lib.hid u26.size
  go_wp2_with fail
  refine (toIntSS_c _ xs0 _ (H0.out.ext v26) S0.out.len S0.out.row).mono ?_
  rintro e w27 ⟨x27, r27, rfl, o27, u27⟩
  have v27 := v26.trans u27
  have SZ27 := Lib.hid u27.size
  have O27 := Lib.hid o27
  clear o27
  have RS_27 := Lib.hid u27.size
  go_wp2_with fail
  refine (toIntSS_c _ xs1 _ (H1.out.ext v27) S1.out.len S1.out.row).mono ?_
  rintro e w28 ⟨x28, r28, rfl, o28, u28⟩
  have v28 := v27.trans u28
  have SZ28 := Lib.hid u28.size
  have O28 := Lib.hid o28
  clear o28
  have RS_28 := Lib.hid u28.size
  go_wp2_with fail
  refine (implLp_c _ xs0 _ xs1 a2 a3 _ (O27.out.ext u28).grid O28.out.grid ).mono ?_
  rw [HV0.out]
  rw [HV1.out]
  rintro e w29 ⟨x29, rfl, o29, u29⟩
  have v29 := v28.trans u29
  have SZ29 := Lib.hid u29.size
  have O29 := Lib.hid o29
  clear o29
  have RS_29 := Lib.hid u29.size
  obtain ⟨a29_0, cp29_0, hxx29, _⟩ := O29.out.read.form
  subst hxx29
  have bo29 := Box.new w29 30 #[.slice a29_0 V0.cells.length cp29_0, .int .i64 V0.hidden, .int .i64 V0.total] rfl
  have u30 := (Ext.refl w29).alloc (.cells #[.slice a29_0 V0.cells.length cp29_0, .int .i64 V0.hidden, .int .i64 V0.total] 30)
  have v30 := v29.trans u30
  have SZ30 := Lib.hid u30.size
  have SA30 : Hid ((w29.alloc (.cells #[.slice a29_0 V0.cells.length cp29_0, .int .i64 V0.hidden, .int .i64 V0.total] 30)).heap.size = w29.heap.size + 1) := Lib.hid (by simp)
  have bx31 := bo29
  have cx31_0 := bx31.cell 0 (by simp)
  have cx31_1 := bx31.cell 1 (by simp)
  have cx31_2 := bx31.cell 2 (by simp)
  have bx32 := ((((((((((((((((((bo5.ext u7).ext u8).ext u9).ext u10).ext u13).ext u14).ext u15).ext u16).ext u17).upd U18.out (fun hb => by have := RG18.out _ hb; have := RS_7.out; have := SZ3.out; have := SZ4.out; have := SZ5.out; have := SZ6.out; have := SA6.out; have := SZ7.out; have := SZ8.out; have := SZ9.out; have := SZ10.out; have := SA10.out; have := SZ13.out; have := SZ14.out; have := SZ15.out; have := SZ16.out; have := SZ17.out; have := SZ18.out; have := SZ19.out; have := SZ22.out; have := SZ24.out; have := SZ26.out; have := SZ27.out; have := SZ28.out; have := SZ29.out; have := SZ30.out; have := SA30.out; omega)).upd U19.out (fun hb => by have := RG19.out _ hb; have := RS_8.out; have := SZ3.out; have := SZ4.out; have := SZ5.out; have := SZ6.out; have := SA6.out; have := SZ7.out; have := SZ8.out; have := SZ9.out; have := SZ10.out; have := SA10.out; have := SZ13.out; have := SZ14.out; have := SZ15.out; have := SZ16.out; have := SZ17.out; have := SZ18.out; have := SZ19.out; have := SZ22.out; have := SZ24.out; have := SZ26.out; have := SZ27.out; have := SZ28.out; have := SZ29.out; have := SZ30.out; have := SA30.out; omega)).ext u22).upd U24.out (fun hb => by have := RG24.out _ hb; have := RS_9.out; have := SZ3.out; have := SZ4.out; have := SZ5.out; have := SZ6.out; have := SA6.out; have := SZ7.out; have := SZ8.out; have := SZ9.out; have := SZ10.out; have := SA10.out; have := SZ13.out; have := SZ14.out; have := SZ15.out; have := SZ16.out; have := SZ17.out; have := SZ18.out; have := SZ19.out; have := SZ22.out; have := SZ24.out; have := SZ26.out; have := SZ27.out; have := SZ28.out; have := SZ29.out; have := SZ30.out; have := SA30.out; omega)).ext u26).ext u27).ext u28).ext u29).ext u30)
  have cx32_0 := bx32.cell 0 (by simp)
  have cx32_1 := bx32.cell 1 (by simp)
  have cx32_2 := bx32.cell 2 (by simp)
  go_wp2_with fail
  refine (eqPlan_t _ _ V0 _ (O29.out.ext u30).read (((((((((((((((((((O5.out.ext u6).ext u7).ext u8).ext u9).ext u10).ext u13).ext u14).ext u15).ext u16).ext u17).away U18.out (fun b hb => by have := RG18.out b hb; have := RS_7.out; have := RS_5.out; have := SZ3.out; have := SZ4.out; have := SZ5.out; have := SZ6.out; have := SA6.out; have := SZ7.out; have := SZ8.out; have := SZ9.out; have := SZ10.out; have := SA10.out; have := SZ13.out; have := SZ14.out; have := SZ15.out; have := SZ16.out; have := SZ17.out; have := SZ18.out; have := SZ19.out; have := SZ22.out; have := SZ24.out; have := SZ26.out; have := SZ27.out; have := SZ28.out; have := SZ29.out; have := SZ30.out; have := SA30.out; omega)).away U19.out (fun b hb => by have := RG19.out b hb; have := RS_8.out; have := RS_5.out; have := SZ3.out; have := SZ4.out; have := SZ5.out; have := SZ6.out; have := SA6.out; have := SZ7.out; have := SZ8.out; have := SZ9.out; have := SZ10.out; have := SA10.out; have := SZ13.out; have := SZ14.out; have := SZ15.out; have := SZ16.out; have := SZ17.out; have := SZ18.out; have := SZ19.out; have := SZ22.out; have := SZ24.out; have := SZ26.out; have := SZ27.out; have := SZ28.out; have := SZ29.out; have := SZ30.out; have := SA30.out; omega)).ext u22).away U24.out (fun b hb => by have := RG24.out b hb; have := RS_9.out; have := RS_5.out; have := SZ3.out; have := SZ4.out; have := SZ5.out; have := SZ6.out; have := SA6.out; have := SZ7.out; have := SZ8.out; have := SZ9.out; have := SZ10.out; have := SA10.out; have := SZ13.out; have := SZ14.out; have := SZ15.out; have := SZ16.out; have := SZ17.out; have := SZ18.out; have := SZ19.out; have := SZ22.out; have := SZ24.out; have := SZ26.out; have := SZ27.out; have := SZ28.out; have := SZ29.out; have := SZ30.out; have := SA30.out; omega)).ext u26).ext u27).ext u28).ext u29).ext u30).read).mono ?_
  rintro e w33 ⟨rfl, u33⟩
  have v33 := v30.trans u33
  have SZ33 := Lib.hid u33.size
  have bx34 := (((((((((((((((bo9.ext u13).ext u14).ext u15).ext u16).ext u17).upd U18.out (fun hb => by have := RG18.out _ hb; have := RS_7.out; have := SZ3.out; have := SZ4.out; have := SZ5.out; have := SZ6.out; have := SA6.out; have := SZ7.out; have := SZ8.out; have := SZ9.out; have := SZ10.out; have := SA10.out; have := SZ13.out; have := SZ14.out; have := SZ15.out; have := SZ16.out; have := SZ17.out; have := SZ18.out; have := SZ19.out; have := SZ22.out; have := SZ24.out; have := SZ26.out; have := SZ27.out; have := SZ28.out; have := SZ29.out; have := SZ30.out; have := SA30.out; have := SZ33.out; omega)).upd U19.out (fun hb => by have := RG19.out _ hb; have := RS_8.out; have := SZ3.out; have := SZ4.out; have := SZ5.out; have := SZ6.out; have := SA6.out; have := SZ7.out; have := SZ8.out; have := SZ9.out; have := SZ10.out; have := SA10.out; have := SZ13.out; have := SZ14.out; have := SZ15.out; have := SZ16.out; have := SZ17.out; have := SZ18.out; have := SZ19.out; have := SZ22.out; have := SZ24.out; have := SZ26.out; have := SZ27.out; have := SZ28.out; have := SZ29.out; have := SZ30.out; have := SA30.out; have := SZ33.out; omega)).ext u22).upd U24.out (fun hb => by have := RG24.out _ hb; have := RS_9.out; have := SZ3.out; have := SZ4.out; have := SZ5.out; have := SZ6.out; have := SA6.out; have := SZ7.out; have := SZ8.out; have := SZ9.out; have := SZ10.out; have := SA10.out; have := SZ13.out; have := SZ14.out; have := SZ15.out; have := SZ16.out; have := SZ17.out; have := SZ18.out; have := SZ19.out; have := SZ22.out; have := SZ24.out; have := SZ26.out; have := SZ27.out; have := SZ28.out; have := SZ29.out; have := SZ30.out; have := SA30.out; have := SZ33.out; omega)).ext u26).ext u27).ext u28).ext u29).ext u30).ext u33)
  have cx34_0 := bx34.cell 0 (by simp)
  have cx34_1 := bx34.cell 1 (by simp)
  have cx34_2 := bx34.cell 2 (by simp)
  go_wp2_with fail
  refine (heldPlan_c _ V0 ys24 1 _ ((((((OM24.out.ext u26).ext u27).ext u28).ext u29).ext u30).ext u33).read MK24.out RS0.out (by omega)).mono ?_
  rw [HM0.out]
  rintro e w35 ⟨rfl, u35⟩
  have v35 := v33.trans u35
  have SZ35 := Lib.hid u35.size
  go_wp2
  go_ret
  exact ⟨rfl, v35⟩
end Go.Proofs.Ytodnkahnbidgaaa
