/- Valid geographies: depths, the areas of a level, leaves, ancestors: the spec's and the program's. -/
import Derived.Test.YtolmmhdeebgglaaGeo
import Derived.Test.YtolmmhdeebgglaaRise
import Derived.Test.YtolmmhdeebgglaaApp
namespace Go.Proofs.Ytolmmhdeebgglaa
open Go.RowKit

def GeoP (par : List Int) : Prop := (1 ≤ par.length ∧ par.length ≤ 30) ∧ ix par 0 = -1 ∧ ∀ k, 0 < k → k < par.length → 0 ≤ ix par k ∧ ix par k < k
open Classical in
noncomputable def geoB (par : List Int) : Bool := decide (GeoP par)
theorem geoB_true {par : List Int} : geoB par = true ↔ GeoP par := by simp [geoB]
theorem geoB_not {par : List Int} (h : ¬ GeoP par) : geoB par = false := by simp [geoB, h]
/-- the depth of an area -/
def depF (par : List Int) : Nat → Nat → Nat
  | 0, _ => 0
  | f + 1, i => if i = 0 then 0 else depF par f (ix par i).toNat + 1
def dep (par : List Int) (i : Nat) : Nat := depF par i i
theorem depF_more {par : List Int} (h : GeoP par) : ∀ f i, i ≤ f → i < par.length → depF par f i = dep par i := by
  intro f
  induction f using Nat.strongRecOn with
  | _ f ih =>
    intro i hi hl
    by_cases e : i = f
    · subst e; rfl
    · obtain ⟨F, rfl⟩ : ∃ F, f = F + 1 := ⟨f - 1, by omega⟩
      unfold dep
      rcases Nat.eq_zero_or_pos i with rfl | hp
      · simp [depF]
      · obtain ⟨I, rfl⟩ : ∃ I, i = I + 1 := ⟨i - 1, by omega⟩
        have hb := h.2.2 (I + 1) (by omega) hl
        simp only [depF, Nat.add_one_ne_zero, if_false]
        rw [ih F (by omega) _ (by omega) (by omega), ih I (by omega) _ (by omega) (by omega)]
theorem dep_zero (par : List Int) : dep par 0 = 0 := rfl
theorem dep_step {par : List Int} (h : GeoP par) {i : Nat} (h0 : 0 < i) (hl : i < par.length) : dep par i = dep par (ix par i).toNat + 1 := by
  obtain ⟨I, rfl⟩ : ∃ I, i = I + 1 := ⟨i - 1, by omega⟩
  have hb := h.2.2 (I + 1) (by omega) hl
  rw [← depF_more h I (ix par (I + 1)).toNat (by omega) (by omega)]
  simp [dep, depF]
theorem dep_le {par : List Int} (h : GeoP par) : ∀ i, i < par.length → dep par i ≤ i := by
  intro i
  induction i using Nat.strongRecOn with
  | _ i ih =>
    intro hl
    rcases Nat.eq_zero_or_pos i with rfl | hp
    · simp [dep, depF]
    · have hb := h.2.2 i hp hl
      rw [dep_step h hp hl]
      have := ih (ix par i).toNat (by omega) (by omega)
      omega
/-- so many parents up -/
def upN (par : List Int) : Nat → Nat → Nat
  | 0, i => i
  | n + 1, i => upN par n (ix par i).toNat
/-- the ancestor at a level, or -1 -/
def ancL (par : List Int) (i : Nat) (lev : Int) : Int := if lev < 0 ∨ (dep par i : Int) < lev then -1 else upN par (dep par i - lev.toNat) i
theorem ancL_not {par : List Int} {i : Nat} {lev : Int} (h : lev < 0 ∨ (dep par i : Int) < lev) : ancL par i lev = -1 := by simp [ancL, h]
theorem ancL_is {par : List Int} {i : Nat} {lev : Int} (h0 : 0 ≤ lev) (h : lev ≤ dep par i) : ancL par i lev = upN par (dep par i - lev.toNat) i := by
  unfold ancL; rw [if_neg (by omega)]
theorem ancL_up {par : List Int} (h : GeoP par) {i : Nat} {lev : Int} (hl : i < par.length) (h0 : 0 ≤ lev) (hd : lev < dep par i) :
    0 < i ∧ ancL par i lev = ancL par (ix par i).toNat lev ∧ dep par i = dep par (ix par i).toNat + 1 := by
  have hp : 0 < i := by
    rcases Nat.eq_zero_or_pos i with rfl | hp
    · rw [dep_zero] at hd; omega
    · exact hp
  have hs := dep_step h hp hl
  refine ⟨hp, ?_, hs⟩
  rw [ancL_is h0 (by omega), ancL_is h0 (by omega), hs]
  have : dep par (ix par i).toNat + 1 - lev.toNat = (dep par (ix par i).toNat - lev.toNat) + 1 := by omega
  rw [this]; rfl
theorem ancL_same {par : List Int} {i : Nat} {lev : Int} (h0 : 0 ≤ lev) (h : (dep par i : Int) = lev) : ancL par i lev = i := by
  rw [ancL_is h0 (by omega)]
  have : dep par i - lev.toNat = 0 := by omega
  rw [this]; rfl
theorem ancL_dep {par : List Int} (h : GeoP par) {lev : Int} (h0 : 0 ≤ lev) : ∀ i, i < par.length → lev ≤ dep par i → ∃ a : Nat, ancL par i lev = a ∧ a < par.length ∧ (dep par a : Int) = lev := by
  intro i
  induction i using Nat.strongRecOn with
  | _ i ih =>
    intro hl hd
    by_cases e : (dep par i : Int) = lev
    · exact ⟨i, ancL_same h0 e, hl, e⟩
    · obtain ⟨hp, e1, e2⟩ := ancL_up h hl h0 (by omega)
      have hb := h.2.2 i hp hl
      rw [e1]
      exact ih _ (by omega) (by omega) (by omega)
/-- the areas of a level below n -/
def levTo (par : List Int) (lev : Int) : Nat → List Int
  | 0 => []
  | n + 1 => if (dep par n : Int) = lev then levTo par lev n ++ [(n : Int)] else levTo par lev n
def levL (par : List Int) (lev : Int) : List Int := levTo par lev par.length
theorem levTo_len (par : List Int) (lev : Int) : ∀ n, (levTo par lev n).length ≤ n := by
  intro n
  induction n with
  | zero => simp [levTo]
  | succ n ih => unfold levTo; split <;> (try simp) <;> omega
theorem levTo_mem {par : List Int} {lev : Int} : ∀ n x, x ∈ levTo par lev n ↔ ∃ i : Nat, x = i ∧ i < n ∧ (dep par i : Int) = lev := by
  intro n
  induction n with
  | zero => intro x; simp [levTo]
  | succ n ih =>
    intro x
    unfold levTo
    constructor
    · split
      · rename_i e
        rw [List.mem_append, ih]
        rintro (⟨i, a, b, c⟩ | hm)
        · exact ⟨i, a, by omega, c⟩
        · simp at hm; exact ⟨n, hm, by omega, e⟩
      · rw [ih]; rintro ⟨i, a, b, c⟩; exact ⟨i, a, by omega, c⟩
    · rintro ⟨i, rfl, b, c⟩
      by_cases e : i = n
      · subst e; rw [if_pos c]; simp
      · split
        · rw [List.mem_append, ih]; exact .inl ⟨i, rfl, by omega, c⟩
        · rw [ih]; exact ⟨i, rfl, by omega, c⟩
/-- the children of an area below n -/
def chTo (par : List Int) (i : Int) : Nat → List Int
  | 0 => []
  | n + 1 => if ix par n = i then chTo par i n ++ [(n : Int)] else chTo par i n
theorem chTo_len (par : List Int) (i : Int) : ∀ n, (chTo par i n).length ≤ n := by
  intro n
  induction n with
  | zero => simp [chTo]
  | succ n ih => unfold chTo; split <;> (try simp) <;> omega
theorem chTo_nil {par : List Int} {i : Int} : ∀ n, chTo par i n = [] ↔ ∀ k, k < n → ix par k ≠ i := by
  intro n
  induction n with
  | zero => simp [chTo]
  | succ n ih =>
    unfold chTo
    split
    · rename_i e
      constructor
      · intro h; simp at h
      · intro h; exact absurd e (h n (by omega))
    · rename_i e
      rw [ih]
      constructor
      · intro h k hk
        by_cases e2 : k = n
        · subst e2; exact e
        · exact h k (by omega)
      · intro h k hk; exact h k (by omega)
theorem chTo_has {par : List Int} {i : Int} : ((chTo par i par.length).length = 0) ↔ hasI par i = false := by
  rw [List.length_eq_zero_iff, chTo_nil]
  constructor
  · intro h; exact hasI_not h
  · intro h k hk e; rw [hasI_of hk e] at h; cases h
/-- the leaves below n -/
def leafTo (par : List Int) : Nat → List Int
  | 0 => []
  | n + 1 => if hasI par n = false then leafTo par n ++ [(n : Int)] else leafTo par n
def leafL (par : List Int) : List Int := leafTo par par.length
theorem leafTo_len (par : List Int) : ∀ n, (leafTo par n).length ≤ n := by
  intro n
  induction n with
  | zero => simp [leafTo]
  | succ n ih => unfold leafTo; split <;> (try simp) <;> omega
theorem leafTo_mem {par : List Int} : ∀ n x, x ∈ leafTo par n → ∃ i : Nat, x = i ∧ i < n := by
  intro n
  induction n with
  | zero => intro x; simp [leafTo]
  | succ n ih =>
    intro x
    unfold leafTo
    split
    · rw [List.mem_append]
      rintro (h | h)
      · obtain ⟨i, a, b⟩ := ih x h; exact ⟨i, a, by omega⟩
      · simp at h; exact ⟨n, h, by omega⟩
    · intro h; obtain ⟨i, a, b⟩ := ih x h; exact ⟨i, a, by omega⟩
theorem leafL_at {par : List Int} {k : Nat} (hk : k < (leafL par).length) : ∃ i : Nat, ix (leafL par) k = i ∧ i < par.length := leafTo_mem _ _ (ix_mem hk)

set_option maxHeartbeats 800000 in
theorem gGood_b (b : Bool) (v : Value) (T : Ge) (w : World) (hb : geoB T.par = b) (h : GeR w v T) :
    Calls Try.prog 76 #[v] w fun e w' => e = .returned (.bool b) ∧ Ext w w' := by
  subst hb
  have HG : Hid True := Lib.hid trivial
  obtain ⟨v1, rfl, a1, c1, rfl, e1, e2, g1⟩ := h
  obtain ⟨xs, hxs⟩ : ∃ xs, T.par = xs := ⟨_, rfl⟩
  rw [hxs] at e1 g1 ⊢
  clear hxs
  have u0 := (Ext.refl w).alloc (.cells #[.slice a1 xs.length c1] 33)
  have b0 := Box.new w 33 #[.slice a1 xs.length c1] rfl
  have k0 := b0.cell 0 (by simp)
  have G := Lib.hid (show IntsA (w.alloc (.cells #[.slice a1 xs.length c1] 33)) a1 xs from fun k hk => by obtain ⟨b, o, e, hc⟩ := g1 k hk; exact ⟨b, o, e, Ext.cell u0 hc⟩); clear g1
  by_cases hn : 1 ≤ xs.length ∧ xs.length ≤ 30
  · have hd : (decide ((1 : Int) ≤ (xs.length : Int)) && decide ((xs.length : Int) ≤ 30)) = true := by simp; omega
    have HD := Lib.hid hd; clear hd
    have hn1 : (0 : Int) < (xs.length : Int) := by omega
    have hn2 : 0 < xs.length := by omega
    obtain ⟨b, o, rfl, hc⟩ := G.out 0 hn2
    simp only [Nat.add_zero] at hc
    by_cases hz : ix xs 0 = -1
    · have HZ := Lib.hid hz
      rw [hz] at hc
      go_enter Try.func76, Try.ntmps76
      go_wp2_with fail
      refine (l1In_b true _ 1 30 _ HD.out).mono ?_
      rintro e w' ⟨rfl, rfl⟩
      go_wp2_with fail
      go_loop [20] (fun i => ∃ k : Nat, k ≤ xs.length ∧ i = .int .i64 k ∧ ∀ j, 0 < j → j < k → 0 ≤ ix xs j ∧ ix xs j < j) (fun i => xs.length - (intOf i).toNat)
      case atStart => exact ⟨0, Nat.zero_le _, rfl, fun j h1 h2 => by omega⟩
      case round =>
        obtain ⟨k, hk, rfl, hj⟩ := hrel
        have HJ := Lib.hid hj; clear hj
        by_cases hlt : k < xs.length
        · obtain ⟨b', o', e', hc'⟩ := G.out k hlt
          simp only [Option.some.injEq, Addr.mk.injEq, and_true] at e'
          obtain ⟨rfl, rfl⟩ := e'
          by_cases hk0 : 0 < k
          · by_cases hin : 0 ≤ ix xs k ∧ ix xs k < k
            · have hd : (decide ((0 : Int) ≤ ix xs k) && decide (ix xs k ≤ (k : Int) - 1)) = true := by simp; omega
              have HD2 := Lib.hid hd; clear hd
              have HIN := Lib.hid hin; clear hin
              go_wp2_with fail
              refine (l1In_b true _ 0 _ _ HD2.out).mono ?_
              rintro e w' ⟨rfl, rfl⟩
              go_wp2
              go_round
              case rel => exact ⟨k + 1, by omega, by go_num, fun j h1 h2 => by
                by_cases e : j = k
                · subst e; exact HIN.out
                · exact HJ.out j h1 (by omega)⟩
              case measure => simp [intOf]; omega
            · have hd : (decide ((0 : Int) ≤ ix xs k) && decide (ix xs k ≤ (k : Int) - 1)) = false := by
                rw [Bool.and_eq_false_iff]; simp only [decide_eq_false_iff_not]; omega
              have HD2 := Lib.hid hd; clear hd
              have HB := Lib.hid (geoB_not (par := xs) (fun hr => hin (hr.2.2 k hk0 hlt)))
              clear hin
              go_wp2_with fail
              refine (l1In_b false _ 0 _ _ HD2.out).mono ?_
              rintro e w' ⟨rfl, rfl⟩
              go_wp2
              go_ret
              rw [HB.out]
              exact ⟨rfl, u0⟩
          · go_wp2
            go_round
            case rel => exact ⟨k + 1, by omega, by go_num, fun j h1 h2 => by omega⟩
            case measure => simp [intOf]; omega
        · have HB := Lib.hid (geoB_true (par := xs).2 ⟨hn, HZ.out, fun j h1 h2 => HJ.out j h1 (by omega)⟩)
          go_wp2
          go_ret
          rw [HB.out]
          exact ⟨rfl, u0⟩
    · have HB := Lib.hid (geoB_not (par := xs) (fun hr => hz hr.2.1))
      go_enter Try.func76, Try.ntmps76
      go_wp2_with fail
      refine (l1In_b true _ 1 30 _ HD.out).mono ?_
      rintro e w' ⟨rfl, rfl⟩
      go_wp2
      go_ret
      rw [HB.out]
      exact ⟨rfl, u0⟩
  · have hd : (decide ((1 : Int) ≤ (xs.length : Int)) && decide ((xs.length : Int) ≤ 30)) = false := by
      rw [Bool.and_eq_false_iff]; simp only [decide_eq_false_iff_not]; omega
    have HD := Lib.hid hd; clear hd
    have HB := Lib.hid (geoB_not (par := xs) (fun hr => hn hr.1))
    go_enter Try.func76, Try.ntmps76
    go_wp2_with fail
    refine (l1In_b false _ 1 30 _ HD.out).mono ?_
    rintro e w' ⟨rfl, rfl⟩
    go_wp2
    go_ret
    rw [HB.out]
    exact ⟨rfl, u0⟩
set_option maxHeartbeats 800000 in
theorem IsGeo_b (b : Bool) (v : Value) (T : Ge) (w : World) (hb : geoB T.par = b) (h : GeR w v T) :
    Calls Try.prog 70 #[v] w fun e w' => e = .returned (.bool b) ∧ Ext w w' := by
  subst hb
  obtain ⟨v1, rfl, a1, c1, rfl, e1, e2, g1⟩ := h
  obtain ⟨xs, hxs⟩ : ∃ xs, T.par = xs := ⟨_, rfl⟩
  rw [hxs] at e1 g1 ⊢
  clear hxs
  have u0 := (Ext.refl w).alloc (.cells #[.slice a1 xs.length c1] 33)
  have b0 := Box.new w 33 #[.slice a1 xs.length c1] rfl
  have k0 := b0.cell 0 (by simp)
  have G := Lib.hid (show IntsA (w.alloc (.cells #[.slice a1 xs.length c1] 33)) a1 xs from fun k hk => by obtain ⟨b, o, e, hc⟩ := g1 k hk; exact ⟨b, o, e, Ext.cell u0 hc⟩); clear g1
  by_cases hn : 1 ≤ xs.length
  · by_cases hn3 : xs.length ≤ 30
    · have hn1 : (0 : Int) < (xs.length : Int) := by omega
      have hn2 : 0 < xs.length := by omega
      obtain ⟨b, o, rfl, hc⟩ := G.out 0 hn2
      simp only [Nat.add_zero] at hc
      by_cases hz : ix xs 0 = -1
      · have HZ := Lib.hid hz
        rw [hz] at hc
        go_enter Try.func70, Try.ntmps70
        go_wp2_with fail
        go_loop [3] (fun i => ∃ k : Nat, 1 ≤ k ∧ k ≤ xs.length ∧ i = .int .i64 k ∧ ∀ j, 0 < j → j < k → 0 ≤ ix xs j ∧ ix xs j < j) (fun i => xs.length - (intOf i).toNat)
        case atStart => exact ⟨1, Nat.le_refl _, by omega, rfl, fun j h1 h2 => by omega⟩
        case round =>
          obtain ⟨k, hk1, hk, rfl, hj⟩ := hrel
          have HJ := Lib.hid hj; clear hj
          by_cases hlt : k < xs.length
          · obtain ⟨b', o', e', hc'⟩ := G.out k hlt
            simp only [Option.some.injEq, Addr.mk.injEq, and_true] at e'
            obtain ⟨rfl, rfl⟩ := e'
            by_cases h0 : ix xs k < 0
            · have HB := Lib.hid (geoB_not (par := xs) (fun hr => by have := (hr.2.2 k hk1 hlt).1; omega))
              go_wp2
              go_ret
              rw [HB.out]
              exact ⟨rfl, u0⟩
            · by_cases h1 : ix xs k < k
              · have HIN : Hid (0 ≤ ix xs k ∧ ix xs k < k) := Lib.hid ⟨by omega, h1⟩
                have h1' : ¬ (k : Int) ≤ ix xs k := by omega
                go_wp2
                go_round
                case rel => exact ⟨k + 1, by omega, by omega, by go_num, fun j h1 h2 => by
                  by_cases e : j = k
                  · subst e; exact HIN.out
                  · exact HJ.out j h1 (by omega)⟩
                case measure => simp [intOf]; omega
              · have HB := Lib.hid (geoB_not (par := xs) (fun hr => h1 (hr.2.2 k hk1 hlt).2))
                have h1' : (k : Int) ≤ ix xs k := by omega
                go_wp2
                go_ret
                rw [HB.out]
                exact ⟨rfl, u0⟩
          · have HB := Lib.hid (geoB_true (par := xs).2 ⟨⟨hn, hn3⟩, HZ.out, fun j h1 h2 => HJ.out j h1 (by omega)⟩)
            go_wp2
            go_ret
            rw [HB.out]
            exact ⟨rfl, u0⟩
      · have HB := Lib.hid (geoB_not (par := xs) (fun hr => hz hr.2.1))
        have hq : (ix xs 0 != -1) = true := by simp; exact hz
        go_enter Try.func70, Try.ntmps70
        go_wp2
        go_ret
        rw [HB.out]
        exact ⟨rfl, u0⟩
    · have HB := Lib.hid (geoB_not (par := xs) (fun hr => hn3 hr.1.2))
      go_enter Try.func70, Try.ntmps70
      go_wp2
      go_ret
      rw [HB.out]
      exact ⟨rfl, u0⟩
  · have HB := Lib.hid (geoB_not (par := xs) (fun hr => hn hr.1.1))
    go_enter Try.func70, Try.ntmps70
    go_wp2
    go_ret
    rw [HB.out]
    exact ⟨rfl, u0⟩
set_option maxHeartbeats 800000 in
theorem gDepth_c (v : Value) (T : Ge) (i : Nat) (w : World) (h : GeR w v T) (hg : GeoP T.par) (hi : i < T.par.length) :
    Calls Try.prog 82 #[v, .int .i64 i] w fun e w' => e = .returned (.int .i64 (dep T.par i)) ∧ Ext w w' := by
  have HG := Lib.hid hg; clear hg
  obtain ⟨v1, rfl, a1, c1, rfl, e1, e2, g1⟩ := h
  obtain ⟨xs, hxs⟩ : ∃ xs, T.par = xs := ⟨_, rfl⟩
  rw [hxs] at e1 g1 HG hi ⊢
  clear hxs
  have hn3 := HG.out.1.2
  have u0 := (Ext.refl w).alloc (.cells #[.slice a1 xs.length c1] 33)
  have b0 := Box.new w 33 #[.slice a1 xs.length c1] rfl
  have k0 := b0.cell 0 (by simp)
  have G := Lib.hid (show IntsA (w.alloc (.cells #[.slice a1 xs.length c1] 33)) a1 xs from fun k hk => by obtain ⟨b, o, e, hc⟩ := g1 k hk; exact ⟨b, o, e, Ext.cell u0 hc⟩); clear g1
  go_enter Try.func82, Try.ntmps82
  go_wp2_with fail
  go_loop [1, 5] (fun x d => ∃ j m : Nat, x = .int .i64 j ∧ d = .int .i64 m ∧ j < xs.length ∧ m + dep xs j = dep xs i ∧ m + j ≤ xs.length) (fun x _ => (intOf x).toNat)
  case atStart => exact ⟨i, 0, rfl, rfl, hi, by omega, by omega⟩
  case round =>
    obtain ⟨j, m, rfl, rfl, hj, hm, hm2⟩ := hrel
    have hj' : (j : Int) < (xs.length : Int) := by omega
    obtain ⟨b, o, rfl, hc⟩ := G.out j hj
    by_cases h0 : 0 < j
    · have hb := HG.out.2.2 j h0 hj
      have HS := Lib.hid (dep_step HG.out h0 hj)
      obtain ⟨p, hp⟩ : ∃ p : Nat, ix xs j = p := ⟨(ix xs j).toNat, by omega⟩
      rw [hp] at hc hb HS
      have HM : Hid (m + 1 + dep xs p = dep xs i) := Lib.hid (by have := HS.out; simp at this; omega)
      clear hm hp HS
      have hp0 : ¬ (p : Int) < 0 := by omega
      have hj0 : (0 : Int) < (j : Int) := by omega
      go_wp2
      go_round
      case rel => exact ⟨p, m + 1, by go_num, by go_num, by omega, HM.out, by omega⟩
      case measure => simp [intOf]; omega
    · have hj0 : j = 0 := by omega
      have HM : Hid (m = dep xs i) := Lib.hid (by rw [hj0, dep_zero] at hm; omega)
      clear hm
      rw [show ix xs j = -1 from by rw [hj0]; exact HG.out.2.1] at hc
      have hj1 : ¬ (0 : Int) < (j : Int) := by omega
      clear hj0
      go_wp2
      go_ret
      exact ⟨ret_int (by have := HM.out; omega), u0⟩
set_option maxHeartbeats 800000 in
theorem depthOf_c (v : Value) (T : Ge) (i : Nat) (w : World) (h : GeR w v T) (hg : GeoP T.par) (hi : i < T.par.length) :
    Calls Try.prog 73 #[v, .int .i64 i] w fun e w' => e = .returned (.int .i64 (dep T.par i)) ∧ Ext w w' := by
  have HG := Lib.hid hg; clear hg
  obtain ⟨v1, rfl, a1, c1, rfl, e1, e2, g1⟩ := h
  obtain ⟨xs, hxs⟩ : ∃ xs, T.par = xs := ⟨_, rfl⟩
  rw [hxs] at e1 g1 HG hi ⊢
  clear hxs
  have hn3 := HG.out.1.2
  have u0 := (Ext.refl w).alloc (.cells #[.slice a1 xs.length c1] 33)
  have b0 := Box.new w 33 #[.slice a1 xs.length c1] rfl
  have k0 := b0.cell 0 (by simp)
  have G := Lib.hid (show IntsA (w.alloc (.cells #[.slice a1 xs.length c1] 33)) a1 xs from fun k hk => by obtain ⟨b, o, e, hc⟩ := g1 k hk; exact ⟨b, o, e, Ext.cell u0 hc⟩); clear g1
  go_enter Try.func73, Try.ntmps73
  go_wp2_with fail
  go_loop [1, 5] (fun x d => ∃ j m : Nat, x = .int .i64 j ∧ d = .int .i64 m ∧ j < xs.length ∧ m + dep xs j = dep xs i ∧ m + j ≤ xs.length) (fun x _ => (intOf x).toNat)
  case atStart => exact ⟨i, 0, rfl, rfl, hi, by omega, by omega⟩
  case round =>
    obtain ⟨j, m, rfl, rfl, hj, hm, hm2⟩ := hrel
    have hj' : (j : Int) < (xs.length : Int) := by omega
    obtain ⟨b, o, rfl, hc⟩ := G.out j hj
    by_cases h0 : 0 < j
    · have hb := HG.out.2.2 j h0 hj
      have HS := Lib.hid (dep_step HG.out h0 hj)
      obtain ⟨p, hp⟩ : ∃ p : Nat, ix xs j = p := ⟨(ix xs j).toNat, by omega⟩
      rw [hp] at hc hb HS
      have HM : Hid (m + 1 + dep xs p = dep xs i) := Lib.hid (by have := HS.out; simp at this; omega)
      clear hm hp HS
      have hp0 : ¬ (p : Int) < 0 := by omega
      have hj0 : (0 : Int) < (j : Int) := by omega
      go_wp2
      go_round
      case rel => exact ⟨p, m + 1, by go_num, by go_num, by omega, HM.out, by omega⟩
      case measure => simp [intOf]; omega
    · have hj0 : j = 0 := by omega
      have HM : Hid (m = dep xs i) := Lib.hid (by rw [hj0, dep_zero] at hm; omega)
      clear hm
      rw [show ix xs j = -1 from by rw [hj0]; exact HG.out.2.1] at hc
      have hj1 : ¬ (0 : Int) < (j : Int) := by omega
      clear hj0
      go_wp2
      go_ret
      exact ⟨ret_int (by have := HM.out; omega), u0⟩
set_option maxHeartbeats 1000000 in
theorem gLevel_c (v : Value) (T : Ge) (lev : Int) (w : World) (h : GeR w v T) (hg : GeoP T.par) :
    Calls Try.prog 52 #[v, .int .i64 lev] w fun e w' => ∃ v', e = .returned v' ∧ Ints w' v' (levL T.par lev) ∧ Ext w w' := by
  have HG := Lib.hid hg; clear hg
  have HR := Lib.hid h
  obtain ⟨v1, rfl, a1, c1, rfl, e1, e2, g1⟩ := h
  obtain ⟨n, hn⟩ : ∃ n, T.par.length = n := ⟨_, rfl⟩
  have hn3 := HG.out.1.2
  rw [hn] at e1 hn3 HR ⊢
  have HN := Lib.hid hn; clear hn g1
  have u0 := (Ext.refl w).alloc (.cells #[.slice a1 n c1] 33)
  have b0 := Box.new w 33 #[.slice a1 n c1] rfl
  have k0 := b0.cell 0 (by simp)
  have HR := Lib.hid (HR.out.ext u0)
  go_enter Try.func52, Try.ntmps52
  go_wp2_with fail
  obtain ⟨wq, hwq⟩ : ∃ wq, wq = w.alloc (.cells #[.slice a1 n c1] 33) := ⟨_, rfl⟩
  rw [← hwq] at u0 b0 HR ⊢
  clear hwq k0
  go_loopw [5, 10] (fun r i wr => ∃ k : Nat, k ≤ n ∧ i = .int .i64 k ∧ IRow wq.heap.size wr r (levTo T.par lev k) ∧ Ext wq wr) (fun _ i _ => n - (intOf i).toNat)
  case atStart => exact ⟨0, Nat.zero_le _, rfl, IRow.nil, Ext.refl _⟩
  case round =>
    obtain ⟨k, hk, rfl, hr, hx⟩ := hrel
    obtain ⟨wo, rfl⟩ : ∃ wo : World, wo = wr := ⟨_, rfl⟩
    have HI := Lib.hid hr; clear hr
    have bo := b0.ext hx
    have ko := bo.cell 0 (by simp)
    by_cases hlt : k < n
    · go_wp2_with fail
      refine (gDepth_c _ T k _ (HR.out.ext hx) HG.out (by rw [HN.out]; exact hlt)).mono ?_
      rintro e w1 ⟨rfl, u1⟩
      obtain ⟨d, hd⟩ : ∃ d, dep T.par k = d := ⟨_, rfl⟩
      rw [hd]
      have HD := Lib.hid hd; clear hd
      by_cases he : (d : Int) = lev
      · have HE : Hid (levTo T.par lev (k + 1) = levTo T.par lev k ++ [(k : Int)]) := Lib.hid (by simp only [levTo]; rw [if_pos (by rw [HD.out]; exact he)])
        have hown := HI.out.ext (u1.alloc (.cells #[.int .i64 k] 3))
        have HOWN := Lib.hid hown
        obtain ⟨L, hL⟩ : ∃ L, (levTo T.par lev k).length = L := ⟨_, rfl⟩
        have hL2 := levTo_len T.par lev k
        unfold IRow at hown
        rw [hL] at hown hL2
        have HOW2 := Lib.hid hown; clear hown
        have HL := Lib.hid hL; clear hL
        have hs := hx.size
        have hs1 := u1.size
        have hs0 := u0.size
        go_wp2_with (at_builtin; go_loud (refine app1 _ rfl _ _ 22 3 rfl (.int .i64 0) 8 Try.underlying22 info_int rfl wq.heap.size _ L _ rfl HOW2.out w1.heap.size 1 3 (.int .i64 k) rfl (Box.new _ _ _ rfl) rfl (by omega) (by omega) (by simp; omega) ?_))
        intro g cp w3 hown3 hgrow hat hlt3
        have HX3 := Lib.hid (HOWN.out.grew ((hx.trans u1).alloc _) (Nat.le_refl _) hgrow)
        have HO3 := Lib.hid hown3; clear hown3
        clear hgrow
        go_wp2
        go_roundw
        case rel => exact ⟨k + 1, by omega, by go_num, by rw [HE.out]; exact IRow.push (by rw [HL.out]; exact HO3.out), HX3.out⟩
        case measure => simp [intOf]; omega
      · have HE : Hid (levTo T.par lev (k + 1) = levTo T.par lev k) := Lib.hid (by simp only [levTo]; rw [if_neg (by rw [HD.out]; exact he)])
        have hq : ((d : Int) == lev) = false := by simp; exact he
        go_wp2
        go_roundw
        case rel => exact ⟨k + 1, by omega, by go_num, by rw [HE.out]; exact HI.out.ext u1, hx.trans u1⟩
        case measure => simp [intOf]; omega
    · have hkl : k = n := by omega
      subst hkl
      go_wp2
      go_ret
      refine ⟨_, rfl, ?_, u0.trans hx⟩
      have := (HI.out.own (Nat.le_refl _)).ints
      unfold levL
      rw [HN.out]
      exact this
set_option maxHeartbeats 1000000 in
theorem areasAt_c (v : Value) (T : Ge) (lev : Int) (w : World) (h : GeR w v T) (hg : GeoP T.par) :
    Calls Try.prog 87 #[v, .int .i64 lev] w fun e w' => ∃ v', e = .returned v' ∧ Ints w' v' (levL T.par lev) ∧ Ext w w' := by
  have HG := Lib.hid hg; clear hg
  have HR := Lib.hid h
  obtain ⟨v1, rfl, a1, c1, rfl, e1, e2, g1⟩ := h
  obtain ⟨n, hn⟩ : ∃ n, T.par.length = n := ⟨_, rfl⟩
  have hn3 := HG.out.1.2
  rw [hn] at e1 hn3 HR ⊢
  have HN := Lib.hid hn; clear hn g1
  have u0 := (Ext.refl w).alloc (.cells #[.slice a1 n c1] 33)
  have b0 := Box.new w 33 #[.slice a1 n c1] rfl
  have k0 := b0.cell 0 (by simp)
  have HR := Lib.hid (HR.out.ext u0)
  go_enter Try.func87, Try.ntmps87
  go_wp2_with fail
  obtain ⟨wq, hwq⟩ : ∃ wq, wq = w.alloc (.cells #[.slice a1 n c1] 33) := ⟨_, rfl⟩
  rw [← hwq] at u0 b0 HR ⊢
  clear hwq k0
  go_loopw [5, 10] (fun r i wr => ∃ k : Nat, k ≤ n ∧ i = .int .i64 k ∧ IRow wq.heap.size wr r (levTo T.par lev k) ∧ Ext wq wr) (fun _ i _ => n - (intOf i).toNat)
  case atStart => exact ⟨0, Nat.zero_le _, rfl, IRow.nil, Ext.refl _⟩
  case round =>
    obtain ⟨k, hk, rfl, hr, hx⟩ := hrel
    obtain ⟨wo, rfl⟩ : ∃ wo : World, wo = wr := ⟨_, rfl⟩
    have HI := Lib.hid hr; clear hr
    have bo := b0.ext hx
    have ko := bo.cell 0 (by simp)
    by_cases hlt : k < n
    · go_wp2_with fail
      refine (depthOf_c _ T k _ (HR.out.ext hx) HG.out (by rw [HN.out]; exact hlt)).mono ?_
      rintro e w1 ⟨rfl, u1⟩
      obtain ⟨d, hd⟩ : ∃ d, dep T.par k = d := ⟨_, rfl⟩
      rw [hd]
      have HD := Lib.hid hd; clear hd
      by_cases he : (d : Int) = lev
      · have HE : Hid (levTo T.par lev (k + 1) = levTo T.par lev k ++ [(k : Int)]) := Lib.hid (by simp only [levTo]; rw [if_pos (by rw [HD.out]; exact he)])
        have hown := HI.out.ext (u1.alloc (.cells #[.int .i64 k] 3))
        have HOWN := Lib.hid hown
        obtain ⟨L, hL⟩ : ∃ L, (levTo T.par lev k).length = L := ⟨_, rfl⟩
        have hL2 := levTo_len T.par lev k
        unfold IRow at hown
        rw [hL] at hown hL2
        have HOW2 := Lib.hid hown; clear hown
        have HL := Lib.hid hL; clear hL
        have hs := hx.size
        have hs1 := u1.size
        have hs0 := u0.size
        go_wp2_with (at_builtin; go_loud (refine app1 _ rfl _ _ 22 3 rfl (.int .i64 0) 8 Try.underlying22 info_int rfl wq.heap.size _ L _ rfl HOW2.out w1.heap.size 1 3 (.int .i64 k) rfl (Box.new _ _ _ rfl) rfl (by omega) (by omega) (by simp; omega) ?_))
        intro g cp w3 hown3 hgrow hat hlt3
        have HX3 := Lib.hid (HOWN.out.grew ((hx.trans u1).alloc _) (Nat.le_refl _) hgrow)
        have HO3 := Lib.hid hown3; clear hown3
        clear hgrow
        go_wp2
        go_roundw
        case rel => exact ⟨k + 1, by omega, by go_num, by rw [HE.out]; exact IRow.push (by rw [HL.out]; exact HO3.out), HX3.out⟩
        case measure => simp [intOf]; omega
      · have HE : Hid (levTo T.par lev (k + 1) = levTo T.par lev k) := Lib.hid (by simp only [levTo]; rw [if_neg (by rw [HD.out]; exact he)])
        have hq : ((d : Int) == lev) = false := by simp; exact he
        go_wp2
        go_roundw
        case rel => exact ⟨k + 1, by omega, by go_num, by rw [HE.out]; exact HI.out.ext u1, hx.trans u1⟩
        case measure => simp [intOf]; omega
    · have hkl : k = n := by omega
      subst hkl
      go_wp2
      go_ret
      refine ⟨_, rfl, ?_, u0.trans hx⟩
      have := (HI.out.own (Nat.le_refl _)).ints
      unfold levL
      rw [HN.out]
      exact this
end Go.Proofs.Ytolmmhdeebgglaa
