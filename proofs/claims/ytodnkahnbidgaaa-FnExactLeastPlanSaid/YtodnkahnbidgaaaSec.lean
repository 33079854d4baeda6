/- Hidden cells: how far each is safe, and whether it is protected; the spec's and the program's: SafeMargin, IsProtected. -/
import Derived.Test.YtodnkahnbidgaaaAtk
import Derived.Test.YtodnkahnbidgaaaLowP
import Derived.Test.YtodnkahnbidgaaaQnet
import Derived.Test.YtodnkahnbidgaaaSrange
import Derived.Test.YtodnkahnbidgaaaRangeW
import Derived.Test.YtodnkahnbidgaaaSwith
import Derived.Deep.RegionHeld3
namespace Go.Proofs.Ytodnkahnbidgaaa
open Go.RowKit
open Fm

section
variable {x p : List (List Int)}
theorem pub_rc (h : pubB x p = true) : Rc x.length (rowAt x 0).length x := by
  have hm := pub_matOk h
  exact ⟨rfl, hm.row⟩
theorem atk_rl (x p : List (List Int)) : (atkT x p).rows.length = x.length := rowS_length x
theorem atk_cl (x p : List (List Int)) : (atkT x p).cols.length = (rowAt x 0).length := colS_length x _
theorem mapG_rc {n m : Nat} {x : List (List Int)} (h : Rc n m x) (f : Nat → Nat → Int → Int) : Rc n m (mapG f x) := by
  refine ⟨by rw [mapG_length, h.len], fun i hi => ?_⟩
  rw [rowAt_mapG (by rw [h.len]; exact hi), rowF_length, h.row i hi]
theorem el_mapG {n m : Nat} {x : List (List Int)} (h : Rc n m x) (f : Nat → Nat → Int → Int) {i j : Nat} (hi : i < n) (hj : j < m) : elOf (mapG f x) i j = f i j (elOf x i j) := by
  unfold elOf
  rw [rowAt_mapG (by rw [h.len]; exact hi), ix_rowF (by rw [h.row i hi]; exact hj)]
theorem pub_el (h : pubB x p = true) {i j : Nat} (hi : i < x.length) (hj : j < (rowAt x 0).length) : 0 ≤ elOf x i j ∧ elOf x i j ≤ 1000 :=
  gridB_elem (pubB_shape h).1 hi (by rw [(pub_rc h).row i hi]; exact hj)
theorem atk_lo (h : pubB x p = true) {i j : Nat} (hi : i < x.length) (hj : j < (rowAt x 0).length) : elOf (atkT x p).lo i j = if elOf p i j = 1 then 0 else elOf x i j := el_mapG (pub_rc h) (atkLo p) hi hj
theorem atk_hi (h : pubB x p = true) {i j : Nat} (hi : i < x.length) (hj : j < (rowAt x 0).length) : elOf (atkT x p).hi i j = if elOf p i j = 1 then 100000 else elOf x i j := el_mapG (pub_rc h) (atkHi p) hi hj
theorem atk_dims (h : pubB x p = true) : 1 ≤ x.length ∧ x.length ≤ 8 ∧ 1 ≤ (rowAt x 0).length ∧ (rowAt x 0).length ≤ 8 := by
  have sh := pubB_shape h
  have := sh.2.2.2.2 0 (by omega)
  omega
theorem S_le_const {n N : Nat} {f : Nat → Int} {c : Int} (h : ∀ i, i < n → 0 ≤ f i ∧ f i ≤ c) (hn : n ≤ N) (hc : 0 ≤ c) : 0 ≤ S n f ∧ S n f ≤ N * c := by
  refine ⟨S_nonneg (fun i hi => (h i hi).1), ?_⟩
  have h1 : S n f ≤ S n (fun _ => c) := S_le (fun i hi => (h i hi).2)
  have h2 := S_const_le (n := n) (N := N) (c := c) hn hc
  omega
theorem atk_ok (h : pubB x p = true) : TrOk (atkT x p) := by
  have hd := atk_dims h
  have hr := pub_rc h
  refine trOk_of ?_ ?_ ?_ ?_ (fun i j hi hj => ?_)
  · have e : allIn 0 100000 (atkT x p).rows = true := allIn_of (fun i hi => by
      rw [atk_rl] at hi
      show 0 ≤ ix (rowS x) i ∧ ix (rowS x) i ≤ 100000
      rw [ix_rowS hi, hr.rowsum hi]
      have := S_le_const (n := (rowAt x 0).length) (N := 8) (f := elOf x i) (c := 1000) (fun j hj => pub_el h hi hj) (by omega) (by omega)
      omega)
    unfold sumsB
    rw [e, atk_rl]; simp; omega
  · have e : allIn 0 100000 (atkT x p).cols = true := allIn_of (fun j hj => by
      rw [atk_cl] at hj
      show 0 ≤ ix (colS x _) j ∧ ix (colS x _) j ≤ 100000
      rw [ix_colS hj, hr.colsum j]
      have := S_le_const (n := x.length) (N := 8) (f := fun i => elOf x i j) (c := 1000) (fun i hi => pub_el h hi hj) (by omega) (by omega)
      omega)
    unfold sumsB
    rw [e, atk_cl]; simp; omega
  · rw [atk_rl, atk_cl]; exact mapG_rc hr _
  · rw [atk_rl, atk_cl]; exact mapG_rc hr _
  · rw [atk_rl] at hi
    rw [atk_cl] at hj
    have := pub_el h hi hj
    rw [atk_lo h hi hj, atk_hi h hi hj]
    split <;> omega
theorem atk_flow (h : pubB x p = true) : Flow (NetT (atkT x p)) (elOf x) := by
  have hr := pub_rc h
  have en : (NetT (atkT x p)).n = x.length := atk_rl x p
  have em : (NetT (atkT x p)).m = (rowAt x 0).length := atk_cl x p
  refine ⟨fun i j hi hj => ?_, fun i j hi hj => ?_, fun i hi => ?_, fun j hj => ?_⟩
  · rw [en] at hi
    rw [em] at hj
    have := pub_el h hi hj
    show elOf (atkT x p).lo i j ≤ _
    rw [atk_lo h hi hj]
    split <;> omega
  · rw [en] at hi
    rw [em] at hj
    have := pub_el h hi hj
    show _ ≤ elOf (atkT x p).hi i j
    rw [atk_hi h hi hj]
    split <;> omega
  · rw [en] at hi
    rw [em]
    show _ = ix (rowS x) i
    rw [ix_rowS hi, hr.rowsum hi]
  · rw [em] at hj
    rw [en]
    show _ = ix (colS x _) j
    rw [ix_colS hj, hr.colsum j]
theorem atk_feas (h : pubB x p = true) : feasB (atkT x p) = true := feasB_of ⟨_, atk_flow h⟩
/-- the least and the greatest value of a cell in all tables that agree with what is published -/
noncomputable def qLo (x p : List (List Int)) (i j : Nat) : Int := lowV (atkT x p) i j
noncomputable def qHi (x p : List (List Int)) (i j : Nat) : Int := highV (atkT x p) i j
theorem q_bound (h : pubB x p = true) {i j : Nat} (hi : i < x.length) (hj : j < (rowAt x 0).length) : 0 ≤ qLo x p i j ∧ qLo x p i j ≤ elOf x i j ∧ elOf x i j ≤ qHi x p i j ∧ qHi x p i j ≤ 100000 := by
  have hi' : i < (atkT x p).rows.length := by rw [atk_rl]; exact hi
  have hj' : j < (atkT x p).cols.length := by rw [atk_cl]; exact hj
  have hf : ∃ y, Flow (NetT (atkT x p)) y := ⟨_, atk_flow h⟩
  have h1 := (low_is hi' hj' hf).2 _ (atk_flow h)
  have h2 := (high_is hi' hj' hf).2 _ (atk_flow h)
  have h3 := low_bound hi' hj' hf
  have h4 := (atk_ok h).el hi' hj'
  unfold qLo qHi
  omega
/-- a cell that is published has but its own value -/
theorem q_shown (h : pubB x p = true) {i j : Nat} (hi : i < x.length) (hj : j < (rowAt x 0).length) (hp : elOf p i j ≠ 1) : qLo x p i j = elOf x i j ∧ qHi x p i j = elOf x i j := by
  have hi' : i < (atkT x p).rows.length := by rw [atk_rl]; exact hi
  have hj' : j < (atkT x p).cols.length := by rw [atk_cl]; exact hj
  have hf : ∃ y, Flow (NetT (atkT x p)) y := ⟨_, atk_flow h⟩
  have h3 := low_bound hi' hj' hf
  rw [atk_lo h hi hj, atk_hi h hi hj, if_neg hp, if_neg hp] at h3
  unfold qLo qHi
  omega
/-- whether a flow keeps below a goal, or gets up to one -/
theorem feas_low {T : Tr} (ho : TrOk T) {i j : Nat} (hi : i < T.rows.length) (hj : j < T.cols.length) (hf : ∃ x, Flow (NetT T) x) {g : Int} (hg : g ≤ elOf T.hi i j) : feasB (withT T i j (elOf T.lo i j) g) = decide (lowV T i j ≤ g) := by
  have hl := low_is hi hj hf
  by_cases h : lowV T i j ≤ g
  · obtain ⟨⟨x, hx, e⟩, _⟩ := hl
    have h0 : elOf T.lo i j ≤ x i j := hx.lo i j hi hj
    rw [feasB_of ⟨x, (flow_withT ho hi hj (Int.le_refl _) hg x).2 ⟨hx, h0, by omega⟩⟩]
    simp [h]
  · rw [feasB_not (by
      rintro ⟨x, hx⟩
      have h9 := (flow_withT ho hi hj (Int.le_refl _) hg x).1 hx
      have := hl.2 x h9.1
      omega)]
    simp [h]
theorem feas_high {T : Tr} (ho : TrOk T) {i j : Nat} (hi : i < T.rows.length) (hj : j < T.cols.length) (hf : ∃ x, Flow (NetT T) x) {g : Int} (hg : elOf T.lo i j ≤ g) : feasB (withT T i j g (elOf T.hi i j)) = decide (g ≤ highV T i j) := by
  have hl := high_is hi hj hf
  by_cases h : g ≤ highV T i j
  · obtain ⟨⟨x, hx, e⟩, _⟩ := hl
    have h0 : x i j ≤ elOf T.hi i j := hx.hi i j hi hj
    rw [feasB_of ⟨x, (flow_withT ho hi hj hg (Int.le_refl _) x).2 ⟨hx, by omega, h0⟩⟩]
    simp [h]
  · rw [feasB_not (by
      rintro ⟨x, hx⟩
      have h9 := (flow_withT ho hi hj hg (Int.le_refl _) x).1 hx
      have := hl.2 x h9.1
      omega)]
    simp [h]
end
theorem prot_low {x p : List (List Int)} (h : pubB x p = true) {i j : Nat} (hi : i < x.length) (hj : j < (rowAt x 0).length) (hp : elOf p i j = 1) {g : Int} (hg : g ≤ 100000) : feasB (withT (atkT x p) i j 0 g) = decide (qLo x p i j ≤ g) := by
  have h1 := feas_low (atk_ok h) (i := i) (j := j) (by rw [atk_rl]; exact hi) (by rw [atk_cl]; exact hj) ⟨_, atk_flow h⟩ (g := g) (by rw [atk_hi h hi hj, if_pos hp]; exact hg)
  rw [atk_lo h hi hj, if_pos hp] at h1
  exact h1
theorem prot_high {x p : List (List Int)} (h : pubB x p = true) {i j : Nat} (hi : i < x.length) (hj : j < (rowAt x 0).length) (hp : elOf p i j = 1) {g : Int} (hg : 0 ≤ g) : feasB (withT (atkT x p) i j g 100000) = decide (g ≤ qHi x p i j) := by
  have h1 := feas_high (atk_ok h) (i := i) (j := j) (by rw [atk_rl]; exact hi) (by rw [atk_cl]; exact hj) ⟨_, atk_flow h⟩ (g := g) (by rw [atk_lo h hi hj, if_pos hp]; exact hg)
  rw [atk_hi h hi hj, if_pos hp] at h1
  exact h1
theorem prot_ok {x p : List (List Int)} (h : pubB x p = true) {i j : Nat} (hi : i < x.length) (hj : j < (rowAt x 0).length) {a b : Int} (hab : 0 ≤ a ∧ a ≤ b ∧ b ≤ 100000) : TrOk (withT (atkT x p) i j a b) :=
  withT_ok (atk_ok h) (by rw [atk_rl]; exact hi) (by rw [atk_cl]; exact hj) hab
end Go.Proofs.Ytodnkahnbidgaaa
namespace Go.Proofs.Ytodnkahnbidgaaa
open Go.RowKit
open Fm

def inB (n : Nat) (i : Int) : Bool := decide (0 ≤ i) && decide (i < n)
theorem inB_true {n : Nat} {i : Int} : inB n i = true ↔ 0 ≤ i ∧ i < n := by simp [inB]
theorem inB_false {n : Nat} {i : Int} : inB n i = false ↔ ¬ (0 ≤ i ∧ i < n) := by
  rw [← inB_true]; simp
def hidB (x p : List (List Int)) (i j : Int) : Bool := pubB x p && (inB x.length i && (inB (rowAt x 0).length j && decide (elOf p i.toNat j.toNat = 1)))
theorem hidB_true {x p : List (List Int)} {i j : Int} (h : hidB x p i j = true) : pubB x p = true ∧ ∃ a b : Nat, i = a ∧ j = b ∧ a < x.length ∧ b < (rowAt x 0).length ∧ elOf p a b = 1 := by
  simp only [hidB, Bool.and_eq_true, inB_true, decide_eq_true_eq] at h
  refine ⟨h.1, i.toNat, j.toNat, by omega, by omega, by omega, by omega, h.2.2.2⟩
theorem pat_rc {x p : List (List Int)} (h : pubB x p = true) : Rc x.length (rowAt x 0).length p := by
  have sh := pubB_shape h
  exact ⟨sh.2.1, fun i hi => by rw [(sh.2.2.2.2 i hi).2.2]; exact (pub_rc h).row i hi⟩

set_option maxRecDepth 100000 in
set_option maxHeartbeats 1600000 in
theorem vCell_b (b : Bool) (v1 : Value) (x : List (List Int)) (v2 : Value) (p : List (List Int)) (i j : Int) (w : World) (hb : hidB x p i j = b) (h1 : Grid w v1 x) (h2 : Grid w v2 p) :
    Calls Try.prog 21 #[v1, v2, .int .i64 i, .int .i64 j] w fun e w' => e = .returned (.bool b) ∧ Ext w w' := by
  subst hb
  have H1 := Lib.hid h1
  have H2 := Lib.hid h2
  obtain ⟨ax, cx, rfl, x1, x2, x3⟩ := h1
  have GX := Lib.hid x3; clear x3
  obtain ⟨ap, cp, rfl, p1, p2, p3⟩ := h2
  have GP := Lib.hid p3; clear p3
  cases hp : pubB x p
  · have hB : hidB x p i j = false := by simp only [hidB, hp, Bool.false_and]
    rw [hB]; clear hB
    have HP := Lib.hid (show (gridB 8 1000 x && patB x p) = false from hp); clear hp
    go_enter Try.func21, Try.ntmps21
    go_wp2_with fail
    refine (qPattern_b false _ _ x p _ HP.out H1.out H2.out).mono ?_
    rintro e w1 ⟨rfl, d1⟩
    have u1 := Drew.ext d1
    go_wp2
    go_ret
    exact ⟨rfl, u1⟩
  have HP := Lib.hid (show (gridB 8 1000 x && patB x p) = true from hp)
  have hd := atk_dims hp
  have HRX := Lib.hid (pub_rc hp)
  have HRP := Lib.hid (pat_rc hp)
  have HPB := Lib.hid hp; clear hp
  obtain ⟨b0, o0, r0, cr0, rfl, hc0, q1, q2, q3⟩ := GX.out.at_ (k := 0) (by omega)
  clear q3
  rw [Nat.add_zero] at hc0
  obtain ⟨m, hm⟩ : ∃ m, (rowAt x 0).length = m := ⟨_, rfl⟩
  rw [hm] at hc0 q1 hd HRX HRP
  have HM := Lib.hid hm; clear hm
  cases hi : inB x.length i
  · have hB : hidB x p i j = false := by simp only [hidB, hi, Bool.false_and, Bool.and_false]
    rw [hB]; clear hB
    have HI : Hid ((decide (0 ≤ i) && decide (i ≤ (x.length : Int) - 1)) = false) := Lib.hid (by have := inB_false.1 hi; rw [Bool.and_eq_false_iff]; simp only [decide_eq_false_iff_not]; omega)
    clear hi
    go_enter Try.func21, Try.ntmps21
    go_wp2_with fail
    refine (qPattern_b true _ _ x p _ HP.out H1.out H2.out).mono ?_
    rintro e w1 ⟨rfl, d1⟩
    have u1 := Drew.ext d1
    have z0 := Ext.cell u1 hc0
    go_wp2_with fail
    refine (l1In_b false i 0 ((x.length : Int) - 1) _ HI.out).mono ?_
    rintro e w2 ⟨rfl, rfl⟩
    go_wp2
    go_ret
    exact ⟨rfl, u1⟩
  have HI : Hid ((decide (0 ≤ i) && decide (i ≤ (x.length : Int) - 1)) = true) := Lib.hid (by have := inB_true.1 hi; rw [Bool.and_eq_true]; simp only [decide_eq_true_eq]; omega)
  cases hj : inB m j
  · have hB : hidB x p i j = false := by simp only [hidB, HM.out, hj, Bool.false_and, Bool.and_false]
    rw [hB]; clear hB
    have HJ : Hid ((decide (0 ≤ j) && decide (j ≤ (m : Int) - 1)) = false) := Lib.hid (by have := inB_false.1 hj; rw [Bool.and_eq_false_iff]; simp only [decide_eq_false_iff_not]; omega)
    clear hi hj
    go_enter Try.func21, Try.ntmps21
    go_wp2_with fail
    refine (qPattern_b true _ _ x p _ HP.out H1.out H2.out).mono ?_
    rintro e w1 ⟨rfl, d1⟩
    have u1 := Drew.ext d1
    have z0 := Ext.cell u1 hc0
    go_wp2_with fail
    refine (l1In_b true i 0 ((x.length : Int) - 1) _ HI.out).mono ?_
    rintro e w2 ⟨rfl, rfl⟩
    go_wp2_with fail
    refine (l1In_b false j 0 ((m : Int) - 1) _ HJ.out).mono ?_
    rintro e w2 ⟨rfl, rfl⟩
    go_wp2
    go_ret
    exact ⟨rfl, u1⟩
  have HJ : Hid ((decide (0 ≤ j) && decide (j ≤ (m : Int) - 1)) = true) := Lib.hid (by have := inB_true.1 hj; rw [Bool.and_eq_true]; simp only [decide_eq_true_eq]; omega)
  have hi' := inB_true.1 hi
  have hj' := inB_true.1 hj
  obtain ⟨a, rfl⟩ : ∃ k : Nat, i = k := ⟨i.toNat, by omega⟩
  obtain ⟨c, rfl⟩ : ∃ k : Nat, j = k := ⟨j.toNat, by omega⟩
  have han : a < x.length := by omega
  have hcm : c < m := by omega
  obtain ⟨b5, o5, ar, cr, rfl, hc5, r1, r2, r3⟩ := GP.out.at_ (k := a) (by rw [HRP.out.len]; exact han)
  obtain ⟨b6, o6, rfl, hx6⟩ := r3 c (by rw [HRP.out.row a han]; exact hcm)
  rw [HRP.out.row a han] at hc5 r1
  have q6 : ix (rowAt p a) c = elOf p a c := rfl
  rw [q6] at hx6
  clear q6 r3
  have hB : hidB x p (a : Int) (c : Int) = decide (elOf p a c = 1) := by simp [hidB, HPB.out, hi, HM.out, hj]
  rw [hB]; clear hB
  have hpl : p.length = x.length := HRP.out.len
  rw [hpl]
  rw [hpl] at p1 H2
  clear hpl hi hj hi' hj'
  by_cases h1 : elOf p a c = 1
  · have hq : (elOf p a c == 1) = true := by simp [h1]
    have hd : decide (elOf p a c = 1) = true := by simp [h1]
    rw [hd]; clear hd h1
    go_enter Try.func21, Try.ntmps21
    go_wp2_with fail
    refine (qPattern_b true _ _ x p _ HP.out H1.out H2.out).mono ?_
    rintro e w1 ⟨rfl, d1⟩
    have u1 := Drew.ext d1
    have z0 := Ext.cell u1 hc0
    have z5 := Ext.cell u1 hc5
    have z6 := Ext.cell u1 hx6
    go_wp2_with fail
    refine (l1In_b true a 0 ((x.length : Int) - 1) _ HI.out).mono ?_
    rintro e w2 ⟨rfl, rfl⟩
    go_wp2_with fail
    refine (l1In_b true c 0 ((m : Int) - 1) _ HJ.out).mono ?_
    rintro e w2 ⟨rfl, rfl⟩
    go_wp2
    go_ret
    exact ⟨rfl, u1⟩
  · have hq : (elOf p a c == 1) = false := by simp [h1]
    have hd : decide (elOf p a c = 1) = false := by simp [h1]
    rw [hd]; clear hd h1
    go_enter Try.func21, Try.ntmps21
    go_wp2_with fail
    refine (qPattern_b true _ _ x p _ HP.out H1.out H2.out).mono ?_
    rintro e w1 ⟨rfl, d1⟩
    have u1 := Drew.ext d1
    have z0 := Ext.cell u1 hc0
    have z5 := Ext.cell u1 hc5
    have z6 := Ext.cell u1 hx6
    go_wp2_with fail
    refine (l1In_b true a 0 ((x.length : Int) - 1) _ HI.out).mono ?_
    rintro e w2 ⟨rfl, rfl⟩
    go_wp2_with fail
    refine (l1In_b true c 0 ((m : Int) - 1) _ HJ.out).mono ?_
    rintro e w2 ⟨rfl, rfl⟩
    go_wp2
    go_ret
    exact ⟨rfl, u1⟩
set_option maxRecDepth 100000 in
set_option maxHeartbeats 1600000 in
theorem isHidden_b (b : Bool) (x : List (List Int)) (v2 : Value) (p : List (List Int)) (i j : Int) (w : World) (hp : pubB x p = true) (hb : hidB x p i j = b) (h2 : Grid w v2 p) :
    Calls Try.prog 28 #[v2, .int .i64 i, .int .i64 j] w fun e w' => e = .returned (.bool b) ∧ Ext w w' := by
  subst hb
  obtain ⟨ap, cp, rfl, p1, p2, p3⟩ := h2
  have GP := Lib.hid p3; clear p3
  have HRP := Lib.hid (pat_rc hp)
  obtain ⟨m, hm⟩ : ∃ m, (rowAt x 0).length = m := ⟨_, rfl⟩
  rw [hm] at HRP
  obtain ⟨n, hn⟩ : ∃ n, x.length = n := ⟨_, rfl⟩
  rw [hn] at HRP
  have hpl : p.length = n := HRP.out.len
  have hB : hidB x p i j = (inB n i && (inB m j && decide (elOf p i.toNat j.toNat = 1))) := by simp [hidB, hp, hn, hm]
  rw [hB, hpl]
  rw [hpl] at p1
  clear hB hpl hp hm hn
  by_cases n1 : 0 ≤ i
  case neg =>
    have hI : inB n i = false := inB_false.2 (by omega)
    rw [hI, Bool.false_and]
    clear hI
    go_enter Try.func28, Try.ntmps28
    go_wp2
    go_ret
    exact ⟨rfl, Ext.refl _⟩
  by_cases n2 : i < n
  case neg =>
    have hI : inB n i = false := inB_false.2 (by omega)
    rw [hI, Bool.false_and]
    clear hI
    go_enter Try.func28, Try.ntmps28
    go_wp2
    go_ret
    exact ⟨rfl, Ext.refl _⟩
  have hI : inB n i = true := inB_true.2 ⟨n1, n2⟩
  rw [hI, Bool.true_and]
  clear hI
  obtain ⟨a, rfl⟩ : ∃ k : Nat, i = k := ⟨i.toNat, by omega⟩
  have han : a < n := by omega
  obtain ⟨b5, o5, ar, cr, rfl, hc5, r1, r2, r3⟩ := GP.out.at_ (k := a) (by rw [HRP.out.len]; exact han)
  have R3 := Lib.hid r3; clear r3
  have hrl := HRP.out.row a han
  rw [hrl] at hc5 r1
  have HRL := Lib.hid hrl; clear hrl n1 n2
  by_cases n3 : 0 ≤ j
  case neg =>
    have hI : inB m j = false := inB_false.2 (by omega)
    rw [hI, Bool.false_and]
    clear hI
    go_enter Try.func28, Try.ntmps28
    go_wp2
    go_ret
    exact ⟨rfl, Ext.refl _⟩
  by_cases n4 : j < m
  case neg =>
    have hI : inB m j = false := inB_false.2 (by omega)
    rw [hI, Bool.false_and]
    clear hI
    go_enter Try.func28, Try.ntmps28
    go_wp2
    go_ret
    exact ⟨rfl, Ext.refl _⟩
  have hI : inB m j = true := inB_true.2 ⟨n3, n4⟩
  rw [hI, Bool.true_and]
  clear hI
  obtain ⟨c, rfl⟩ : ∃ k : Nat, j = k := ⟨j.toNat, by omega⟩
  have hcm : c < m := by omega
  obtain ⟨b6, o6, rfl, hx6⟩ := R3.out c (by rw [HRL.out]; exact hcm)
  have q6 : ix (rowAt p a) c = elOf p a c := rfl
  rw [q6] at hx6
  clear q6 n3 n4
  simp only [Int.toNat_natCast]
  by_cases h1 : elOf p a c = 1
  · have hq : (elOf p a c == 1) = true := by simp [h1]
    have hd : decide (elOf p a c = 1) = true := by simp [h1]
    rw [hd]; clear hd h1
    go_enter Try.func28, Try.ntmps28
    go_wp2
    go_ret
    exact ⟨rfl, Ext.refl _⟩
  · have hq : (elOf p a c == 1) = false := by simp [h1]
    have hd : decide (elOf p a c = 1) = false := by simp [h1]
    rw [hd]; clear hd h1
    go_enter Try.func28, Try.ntmps28
    go_wp2
    go_ret
    exact ⟨rfl, Ext.refl _⟩
end Go.Proofs.Ytodnkahnbidgaaa
namespace Go.Proofs.Ytodnkahnbidgaaa
open Go.RowKit
open Fm

noncomputable def smDown (x p : List (List Int)) (i j : Int) : Int := if hidB x p i j = true then elOf x i.toNat j.toNat - qLo x p i.toNat j.toNat else 0
noncomputable def smUp (x p : List (List Int)) (i j : Int) : Int := if hidB x p i j = true then qHi x p i.toNat j.toNat - elOf x i.toNat j.toNat else 0
/-- protected: the least value at most max 0 (value - down), the greatest at least value + up -/
noncomputable def protB (x p : List (List Int)) (i j : Nat) (down up : Int) : Bool := decide (qLo x p i j ≤ imax (elOf x i j - down) 0) && decide (elOf x i j + up ≤ qHi x p i j)
def levB (down up : Int) : Bool := (decide (0 ≤ down) && decide (down ≤ 1000)) && (decide (0 ≤ up) && decide (up ≤ 1000))
noncomputable def ipB (x p : List (List Int)) (i j down up : Int) : Bool := hidB x p i j && levB down up
noncomputable def ipV (x p : List (List Int)) (i j down up : Int) : Bool := ipB x p i j down up && protB x p i.toNat j.toNat down up
/-- an attack's network in memory, its fields' lengths as those of the table -/
theorem atk_form {x p : List (List Int)} (h : pubB x p = true) {w : World} {v : Value} (hr : TrR w v (atkT x p)) : ∃ a0 c0 a1 c1 a2 c2 a3 c3, v = .agg #[.slice a0 x.length c0, .slice a1 (rowAt x 0).length c1, .slice a2 x.length c2, .slice a3 x.length c3] := by
  obtain ⟨a0, c0, a1, c1, a2, c2, a3, c3, rfl, _⟩ := hr.form
  have e1 : (atkT x p).lo.length = x.length := by rw [(atk_ok h).rcLo.len, atk_rl]
  have e2 : (atkT x p).hi.length = x.length := by rw [(atk_ok h).rcHi.len, atk_rl]
  rw [atk_rl, atk_cl, e1, e2]
  exact ⟨a0, c0, a1, c1, a2, c2, a3, c3, rfl⟩

end Go.Proofs.Ytodnkahnbidgaaa
namespace Go.Proofs.Ytodnkahnbidgaaa
open Go.RowKit
open Fm

theorem prot_goal {X down : Int} : imax (X - down) 0 = if down < X then X - down else 0 := by
  unfold imax; split <;> omega

set_option maxRecDepth 100000 in
theorem vLevels_b (b : Bool) (down up : Int) (w : World) (hb : levB down up = b) : Calls Try.prog 36 #[.int .i64 down, .int .i64 up] w fun e w' => e = .returned (.bool b) ∧ w' = w := by
  subst hb
  cases h1 : (decide (0 ≤ down) && decide (down ≤ 1000))
  · have hB : levB down up = false := by simp only [levB, h1, Bool.false_and]
    rw [hB]; clear hB
    have H1 := Lib.hid h1; clear h1
    go_enter Try.func36, Try.ntmps36
    go_wp2_with fail
    refine (l1In_b false down 0 1000 _ H1.out).mono ?_
    rintro e w1 ⟨rfl, rfl⟩
    go_wp2
    go_ret
    exact ⟨rfl, rfl⟩
  · have hB : levB down up = (decide (0 ≤ up) && decide (up ≤ 1000)) := by simp only [levB, h1, Bool.true_and]
    rw [hB]; clear hB
    obtain ⟨b2, hb2⟩ : ∃ b, (decide (0 ≤ up) && decide (up ≤ 1000)) = b := ⟨_, rfl⟩
    rw [hb2]
    have H1 := Lib.hid h1; clear h1
    have H2 := Lib.hid hb2; clear hb2
    go_enter Try.func36, Try.ntmps36
    go_wp2_with fail
    refine (l1In_b true down 0 1000 _ H1.out).mono ?_
    rintro e w1 ⟨rfl, rfl⟩
    go_wp2_with fail
    refine (l1In_b b2 up 0 1000 _ H2.out).mono ?_
    rintro e w1 ⟨rfl, rfl⟩
    cases b2
    all_goals go_wp2
    all_goals go_ret
    all_goals exact ⟨rfl, rfl⟩
set_option maxRecDepth 100000 in
theorem areMargins_b (b : Bool) (down up : Int) (w : World) (hb : levB down up = b) : Calls Try.prog 42 #[.int .i64 down, .int .i64 up] w fun e w' => e = .returned (.bool b) ∧ w' = w := by
  subst hb
  have key : ∀ b, levB down up = b → (0 ≤ down ∧ down ≤ 1000 ∧ 0 ≤ up ∧ up ≤ 1000 ↔ b = true) := by
    intro b hb; subst hb; simp only [levB, Bool.and_eq_true, decide_eq_true_eq]; omega
  by_cases n1 : 0 ≤ down
  case neg =>
    have hB : levB down up = false := by cases h : levB down up; rfl; have := (key _ h).2 rfl; omega
    rw [hB]; clear hB key
    go_enter Try.func42, Try.ntmps42
    go_wp2
    go_ret
    exact ⟨rfl, rfl⟩
  by_cases n2 : down ≤ 1000
  case neg =>
    have hB : levB down up = false := by cases h : levB down up; rfl; have := (key _ h).2 rfl; omega
    rw [hB]; clear hB key
    go_enter Try.func42, Try.ntmps42
    go_wp2
    go_ret
    exact ⟨rfl, rfl⟩
  by_cases n3 : 0 ≤ up
  case neg =>
    have hB : levB down up = false := by cases h : levB down up; rfl; have := (key _ h).2 rfl; omega
    rw [hB]; clear hB key
    go_enter Try.func42, Try.ntmps42
    go_wp2
    go_ret
    exact ⟨rfl, rfl⟩
  by_cases n4 : up ≤ 1000
  case neg =>
    have hB : levB down up = false := by cases h : levB down up; rfl; have := (key _ h).2 rfl; omega
    rw [hB]; clear hB key
    go_enter Try.func42, Try.ntmps42
    go_wp2
    go_ret
    exact ⟨rfl, rfl⟩
  have hB : levB down up = true := (key _ rfl).1 ⟨n1, n2, n3, n4⟩
  rw [hB]; clear hB key
  go_enter Try.func42, Try.ntmps42
  go_wp2
  go_ret
  exact ⟨rfl, rfl⟩
set_option maxRecDepth 100000 in
theorem vGoal_c (G X down : Int) (w : World) (hG : imax (X - down) 0 = G) (h1 : 0 ≤ X ∧ X ≤ 1000) (h2 : 0 ≤ down ∧ down ≤ 1000) : Calls Try.prog 100 #[.int .i64 X, .int .i64 down] w fun e w' => e = .returned (.int .i64 G) ∧ w' = w := by
  have HG := Lib.hid hG; clear hG
  go_enter Try.func100, Try.ntmps100
  go_wp2_with fail
  refine (l1Most_c (X - down) 0 _).mono ?_
  rw [HG.out]
  rintro e w1 ⟨rfl, rfl⟩
  go_wp2
  go_ret
  exact ⟨rfl, rfl⟩
set_option maxRecDepth 100000 in
set_option maxHeartbeats 1600000 in
theorem isProtected_b (b : Bool) (x p : List (List Int)) (a0 a1 a2 a3 ax : Option Addr) (c0 c1 c2 c3 cx n m a c : Nat) (down up : Int) (w : World) (hn : x.length = n) (hm : (rowAt x 0).length = m) (hp : pubB x p = true) (h : TrR w (.agg #[.slice a0 n c0, .slice a1 m c1, .slice a2 n c2, .slice a3 n c3]) (atkT x p)) (hX : Grid w (.slice ax n cx) x) (ha : a < n) (hc : c < m) (hl : levB down up = true) (hb : protB x p a c down up = b) :
    Calls Try.prog 86 #[.agg #[.slice a0 n c0, .slice a1 m c1, .slice a2 n c2, .slice a3 n c3], .slice ax n cx, .int .i64 a, .int .i64 c, .int .i64 down, .int .i64 up] w fun e w' => e = .returned (.bool b) ∧ Ext w w' := by
  subst hb
  have hle : (0 ≤ down ∧ down ≤ 1000) ∧ 0 ≤ up ∧ up ≤ 1000 := by simpa only [levB, Bool.and_eq_true, decide_eq_true_eq] using hl
  clear hl
  obtain ⟨⟨l1, l2⟩, l3, l4⟩ := hle
  have H := Lib.hid h; clear h
  have HX := Lib.hid hX
  obtain ⟨_, _, e9, q1, q2, gx⟩ := hX
  simp only [Value.slice.injEq] at e9
  obtain ⟨rfl, e8, rfl⟩ := e9
  clear e8
  have hqb := q_bound hp (i := a) (j := c) (by rw [hn]; exact ha) (by rw [hm]; exact hc)
  have hxe := pub_el hp (i := a) (j := c) (by rw [hn]; exact ha) (by rw [hm]; exact hc)
  have HRX : Hid (Rc n m x) := Lib.hid (by rw [← hn, ← hm]; exact pub_rc hp)
  obtain ⟨b5, o5, ar, cr, rfl, hc5, r1, r2, r3⟩ := gx.at_ (k := a) (by rw [hn]; exact ha)
  obtain ⟨b6, o6, rfl, hx6⟩ := r3 c (by rw [HRX.out.row a ha]; exact hc)
  rw [HRX.out.row a ha] at hc5 r1
  have q6 : ix (rowAt x a) c = elOf x a c := rfl
  rw [q6] at hx6
  clear q6 r3 gx
  rw [hn] at q1
  have HN := Lib.hid hn; clear hn
  have HM := Lib.hid hm; clear hm
  have HP := Lib.hid hp; clear hp
  obtain ⟨VL, hVL⟩ : ∃ V, qLo x p a c = V := ⟨_, rfl⟩
  obtain ⟨VH, hVH⟩ : ∃ V, qHi x p a c = V := ⟨_, rfl⟩
  obtain ⟨X, hX⟩ : ∃ V, elOf x a c = V := ⟨_, rfl⟩
  have hB : protB x p a c down up = (decide (VL ≤ if down < X then X - down else 0) && decide (X + up ≤ VH)) := by unfold protB; rw [hVL, hVH, hX, prot_goal]
  rw [hB]; clear hB
  rw [hVL, hVH] at hqb
  have HVL : Hid (lowV (atkT x p) a c = VL) := Lib.hid hVL
  have HVH : Hid (highV (atkT x p) a c = VH) := Lib.hid hVH
  clear hVL hVH
  rw [hX] at hqb hxe hx6
  clear hX
  have u0 := (Ext.refl w).alloc (.cells #[.slice a0 n c0, .slice a1 m c1, .slice a2 n c2, .slice a3 n c3] 38)
  have b0 := Box.new w 38 #[.slice a0 n c0, .slice a1 m c1, .slice a2 n c2, .slice a3 n c3] rfl
  have k0 := b0.cell 0 (by simp)
  have k1 := b0.cell 1 (by simp)
  have k2 := b0.cell 2 (by simp)
  have k3 := b0.cell 3 (by simp)
  obtain ⟨ws, hws⟩ : ∃ ws, w.alloc (.cells #[.slice a0 n c0, .slice a1 m c1, .slice a2 n c2, .slice a3 n c3] 38) = ws := ⟨_, rfl⟩
  rw [hws] at u0 b0 k0 k1 k2 k3
  have HWS := Lib.hid hws; clear hws
  have main : ∀ w3 : World, Ext ws w3 → (w3.cell? ⟨b5, o5 + a, none⟩ = some (.slice (some ⟨b6, o6, none⟩) m cr)) ∧ w3.cell? ⟨b6, o6 + c, none⟩ = some (.int .i64 X) := fun w3 u => ⟨(u0.trans u).cell hc5, (u0.trans u).cell hx6⟩
  by_cases g1 : down < X
  · rw [if_pos g1]
    by_cases g2 : VL ≤ X - down
    · by_cases g3 : X + up ≤ VH
      · have hd : (decide (VL ≤ X - down) && decide (X + up ≤ VH)) = true := by simp [g2, g3]
        rw [hd]; clear hd
        go_enter Try.func86, Try.ntmps86
        go_wp2_with fail
        rw [HWS.out]
        refine (rangeOf_c (atkT x p) x a0 a1 a2 a3 _ c0 c1 c2 c3 cx n m a c _ (by rw [atk_rl]; exact HN.out) (by rw [atk_cl]; exact HM.out) (H.out.ext u0) (HX.out.ext u0) (atk_ok HP.out) HRX.out (atk_flow HP.out) ha hc).mono ?_
        rw [HVL.out, HVH.out]
        rintro e w3 ⟨rfl, u3⟩
        obtain ⟨y5, y6⟩ := main w3 u3
        go_wp2
        go_ret
        exact ⟨rfl, u0.trans u3⟩
      · have hd : (decide (VL ≤ X - down) && decide (X + up ≤ VH)) = false := by simp [g3]
        rw [hd]; clear hd
        have HD : Hid (decide (X + up ≤ VH) = false) := Lib.hid (by simp [g3])
        go_enter Try.func86, Try.ntmps86
        go_wp2_with fail
        rw [HWS.out]
        refine (rangeOf_c (atkT x p) x a0 a1 a2 a3 _ c0 c1 c2 c3 cx n m a c _ (by rw [atk_rl]; exact HN.out) (by rw [atk_cl]; exact HM.out) (H.out.ext u0) (HX.out.ext u0) (atk_ok HP.out) HRX.out (atk_flow HP.out) ha hc).mono ?_
        rw [HVL.out, HVH.out]
        rintro e w3 ⟨rfl, u3⟩
        obtain ⟨y5, y6⟩ := main w3 u3
        go_wp2
        go_ret
        exact ⟨by rw [HD.out]; rfl, u0.trans u3⟩
    · have hd : (decide (VL ≤ X - down) && decide (X + up ≤ VH)) = false := by simp [g2]
      rw [hd]; clear hd
      go_enter Try.func86, Try.ntmps86
      go_wp2_with fail
      rw [HWS.out]
      refine (rangeOf_c (atkT x p) x a0 a1 a2 a3 _ c0 c1 c2 c3 cx n m a c _ (by rw [atk_rl]; exact HN.out) (by rw [atk_cl]; exact HM.out) (H.out.ext u0) (HX.out.ext u0) (atk_ok HP.out) HRX.out (atk_flow HP.out) ha hc).mono ?_
      rw [HVL.out, HVH.out]
      rintro e w3 ⟨rfl, u3⟩
      obtain ⟨y5, y6⟩ := main w3 u3
      go_wp2
      go_ret
      exact ⟨rfl, u0.trans u3⟩
  · rw [if_neg g1]
    by_cases g2 : VL ≤ 0
    · by_cases g3 : X + up ≤ VH
      · have hd : (decide (VL ≤ 0) && decide (X + up ≤ VH)) = true := by simp [g2, g3]
        rw [hd]; clear hd
        go_enter Try.func86, Try.ntmps86
        go_wp2_with fail
        rw [HWS.out]
        refine (rangeOf_c (atkT x p) x a0 a1 a2 a3 _ c0 c1 c2 c3 cx n m a c _ (by rw [atk_rl]; exact HN.out) (by rw [atk_cl]; exact HM.out) (H.out.ext u0) (HX.out.ext u0) (atk_ok HP.out) HRX.out (atk_flow HP.out) ha hc).mono ?_
        rw [HVL.out, HVH.out]
        rintro e w3 ⟨rfl, u3⟩
        obtain ⟨y5, y6⟩ := main w3 u3
        go_wp2
        go_ret
        exact ⟨rfl, u0.trans u3⟩
      · have hd : (decide (VL ≤ 0) && decide (X + up ≤ VH)) = false := by simp [g3]
        rw [hd]; clear hd
        have HD : Hid (decide (X + up ≤ VH) = false) := Lib.hid (by simp [g3])
        go_enter Try.func86, Try.ntmps86
        go_wp2_with fail
        rw [HWS.out]
        refine (rangeOf_c (atkT x p) x a0 a1 a2 a3 _ c0 c1 c2 c3 cx n m a c _ (by rw [atk_rl]; exact HN.out) (by rw [atk_cl]; exact HM.out) (H.out.ext u0) (HX.out.ext u0) (atk_ok HP.out) HRX.out (atk_flow HP.out) ha hc).mono ?_
        rw [HVL.out, HVH.out]
        rintro e w3 ⟨rfl, u3⟩
        obtain ⟨y5, y6⟩ := main w3 u3
        go_wp2
        go_ret
        exact ⟨by rw [HD.out]; rfl, u0.trans u3⟩
    · have hd : (decide (VL ≤ 0) && decide (X + up ≤ VH)) = false := by simp [g2]
      rw [hd]; clear hd
      go_enter Try.func86, Try.ntmps86
      go_wp2_with fail
      rw [HWS.out]
      refine (rangeOf_c (atkT x p) x a0 a1 a2 a3 _ c0 c1 c2 c3 cx n m a c _ (by rw [atk_rl]; exact HN.out) (by rw [atk_cl]; exact HM.out) (H.out.ext u0) (HX.out.ext u0) (atk_ok HP.out) HRX.out (atk_flow HP.out) ha hc).mono ?_
      rw [HVL.out, HVH.out]
      rintro e w3 ⟨rfl, u3⟩
      obtain ⟨y5, y6⟩ := main w3 u3
      go_wp2
      go_ret
      exact ⟨rfl, u0.trans u3⟩
set_option maxRecDepth 100000 in
set_option maxHeartbeats 3200000 in
theorem vProtected_b (b : Bool) (x p : List (List Int)) (ax ap : Option Addr) (cx cp n m a c : Nat) (down up : Int) (w : World) (hn : x.length = n) (hm : (rowAt x 0).length = m) (hp : pubB x p = true) (hX : Grid w (.slice ax n cx) x) (hP : Grid w (.slice ap n cp) p) (ha : a < n) (hc : c < m) (h1 : elOf p a c = 1) (hl : levB down up = true) (hb : protB x p a c down up = b) :
    Calls Try.prog 83 #[.slice ax n cx, .slice ap n cp, .int .i64 a, .int .i64 c, .int .i64 down, .int .i64 up] w fun e w' => e = .returned (.bool b) ∧ Ext w w' := by
  subst hb
  have hle : (0 ≤ down ∧ down ≤ 1000) ∧ 0 ≤ up ∧ up ≤ 1000 := by simpa only [levB, Bool.and_eq_true, decide_eq_true_eq] using hl
  clear hl
  obtain ⟨⟨l1, l2⟩, l3, l4⟩ := hle
  have HX := Lib.hid hX
  have HPG := Lib.hid hP; clear hP
  obtain ⟨_, _, e9, q1, q2, gx⟩ := hX
  simp only [Value.slice.injEq] at e9
  obtain ⟨rfl, e8, rfl⟩ := e9
  clear e8
  have hqb := q_bound hp (i := a) (j := c) (by rw [hn]; exact ha) (by rw [hm]; exact hc)
  have hxe := pub_el hp (i := a) (j := c) (by rw [hn]; exact ha) (by rw [hm]; exact hc)
  have HRX : Hid (Rc n m x) := Lib.hid (by rw [← hn, ← hm]; exact pub_rc hp)
  obtain ⟨b5, o5, ar, cr, rfl, hc5, r1, r2, r3⟩ := gx.at_ (k := a) (by rw [hn]; exact ha)
  obtain ⟨b6, o6, rfl, hx6⟩ := r3 c (by rw [HRX.out.row a ha]; exact hc)
  rw [HRX.out.row a ha] at hc5 r1
  have q6 : ix (rowAt x a) c = elOf x a c := rfl
  rw [q6] at hx6
  clear q6 r3 gx
  rw [hn] at q1
  obtain ⟨VL, hVL⟩ : ∃ V, qLo x p a c = V := ⟨_, rfl⟩
  obtain ⟨VH, hVH⟩ : ∃ V, qHi x p a c = V := ⟨_, rfl⟩
  obtain ⟨X, hX⟩ : ∃ V, elOf x a c = V := ⟨_, rfl⟩
  obtain ⟨G, hG⟩ : ∃ V, imax (X - down) 0 = V := ⟨_, rfl⟩
  have hGb : 0 ≤ G ∧ G ≤ 1000 := by rw [hX] at hxe; rw [← hG, prot_goal]; split <;> omega
  obtain ⟨bl, hbl⟩ : ∃ b, decide (VL ≤ G) = b := ⟨_, rfl⟩
  obtain ⟨bh, hbh⟩ : ∃ b, decide (X + up ≤ VH) = b := ⟨_, rfl⟩
  have hB : protB x p a c down up = (bl && bh) := by unfold protB; rw [hVL, hVH, hX, hG, hbl, hbh]
  rw [hB]; clear hB
  have HBL : Hid (feasB (withT (atkT x p) a c 0 G) = bl) := Lib.hid (by rw [prot_low hp (by rw [hn]; exact ha) (by rw [hm]; exact hc) h1 (by omega), hVL]; exact hbl)
  have hXU : 0 ≤ X + up ∧ X + up ≤ 2000 := by rw [hX] at hxe; omega
  have HBH : Hid (feasB (withT (atkT x p) a c (X + up) 100000) = bh) := Lib.hid (by rw [prot_high hp (by rw [hn]; exact ha) (by rw [hm]; exact hc) h1 (by omega), hVH]; exact hbh)
  have HO1 : Hid (TrOk (withT (atkT x p) a c 0 G)) := Lib.hid (prot_ok hp (by rw [hn]; exact ha) (by rw [hm]; exact hc) ⟨by omega, by omega, by omega⟩)
  have HO2 : Hid (TrOk (withT (atkT x p) a c (X + up) 100000)) := Lib.hid (prot_ok hp (by rw [hn]; exact ha) (by rw [hm]; exact hc) ⟨by omega, by omega, by omega⟩)
  have HN1 : Hid ((atkT x p).rows.length = n) := Lib.hid (by rw [atk_rl]; exact hn)
  have HM1 : Hid ((atkT x p).cols.length = m) := Lib.hid (by rw [atk_cl]; exact hm)
  have HOK := Lib.hid (atk_ok hp)
  have HLE : Hid ((atkT x p).lo.length = n ∧ (atkT x p).hi.length = n) := Lib.hid ⟨by rw [HOK.out.rcLo.len]; exact HN1.out, by rw [HOK.out.rcHi.len]; exact HN1.out⟩
  have HN := Lib.hid hn; clear hn
  have HM := Lib.hid hm; clear hm
  have HP := Lib.hid hp; clear hp
  have HG := Lib.hid hG; clear hG
  rw [hX] at hxe hx6
  clear hbl hbh hVL hVH hX hqb h1
  go_enter Try.func83, Try.ntmps83
  go_wp2_with fail
  refine (qNetwork_c _ x _ p _ HX.out HPG.out HP.out).mono ?_
  rintro e w2 ⟨v2, rfl, ot, u2⟩
  have hr := ot.read
  clear ot
  obtain ⟨a0, c0, a1, c1, a2, c2, a3, c3, rfl⟩ := atk_form HP.out hr
  rw [HN.out, HM.out] at hr ⊢
  have HR := Lib.hid hr; clear hr
  have uA := (Ext.refl w2).alloc (.cells #[.slice a0 n c0, .slice a1 m c1, .slice a2 n c2, .slice a3 n c3] 38)
  have b0 := Box.new w2 38 #[.slice a0 n c0, .slice a1 m c1, .slice a2 n c2, .slice a3 n c3] rfl
  obtain ⟨ws, hws⟩ : ∃ ws, w2.alloc (.cells #[.slice a0 n c0, .slice a1 m c1, .slice a2 n c2, .slice a3 n c3] 38) = ws := ⟨_, rfl⟩
  rw [hws] at uA b0
  have HWS := Lib.hid hws; clear hws
  have k0 : ws.cell? ⟨w2.heap.size, 0, none⟩ = some (.slice a0 n c0) := b0.cell 0 (by simp)
  have k1 : ws.cell? ⟨w2.heap.size, 1, none⟩ = some (.slice a1 m c1) := b0.cell 1 (by simp)
  have k2 : ws.cell? ⟨w2.heap.size, 2, none⟩ = some (.slice a2 n c2) := b0.cell 2 (by simp)
  have k3 : ws.cell? ⟨w2.heap.size, 3, none⟩ = some (.slice a3 n c3) := b0.cell 3 (by simp)
  have uX := u2.trans uA
  have k5 := Ext.cell uX hc5
  have k6 := Ext.cell uX hx6
  clear hc5 hx6
  have HRD : Hid (TrR ws.drew (.agg #[.slice a0 n c0, .slice a1 m c1, .slice a2 n c2, .slice a3 n c3]) (atkT x p)) := Lib.hid (HR.out.ext uA.drew)
  have hT1 : ∀ (lo hi : Int) (wz w3 : World) (a4 a5 : Option Addr) (c4 c5 mid l0 : Nat) (r4 r5 : List Value), TrR wz (.agg #[.slice a0 n c0, .slice a1 m c1, .slice a2 n c2, .slice a3 n c3]) (atkT x p) → Ext wz w3 → OwnGA l0 mid w3 a4 r4 (setEl (atkT x p).lo a c lo) → OwnGA mid w3.heap.size w3 a5 r5 (setEl (atkT x p).hi a c hi) → n ≤ c4 → c4 ≤ 9223372036854775807 → n ≤ c5 → c5 ≤ 9223372036854775807 → TrR w3 (.agg #[.slice a0 n c0, .slice a1 m c1, .slice a4 n c4, .slice a5 n c5]) (withT (atkT x p) a c lo hi) :=
    fun lo hi wz w3 a4 a5 c4 c5 mid l0 r4 r5 hR u g4 g5 t1 t2 t3 t4 => ⟨_, _, _, _, rfl, hR.f0.ext u, hR.f1.ext u, ⟨a4, c4, by show _ = Value.slice a4 (setEl (atkT x p).lo a c lo).length c4; rw [setEl_len, HLE.out.1], by show (setEl (atkT x p).lo a c lo).length ≤ c4; rw [setEl_len, HLE.out.1]; exact t1, t2, g4.grid⟩, ⟨a5, c5, by show _ = Value.slice a5 (setEl (atkT x p).hi a c hi).length c5; rw [setEl_len, HLE.out.2], by show (setEl (atkT x p).hi a c hi).length ≤ c5; rw [setEl_len, HLE.out.2]; exact t3, t4, g5.grid⟩⟩
  have HT1 := Lib.hid hT1; clear hT1
  go_wp2_with fail
  rw [HWS.out]
  go_region_held3 (fun x => x.cell? ⟨w2.heap.size, 0, none⟩ = some (.slice a0 n c0) ∧ x.cell? ⟨w2.heap.size, 1, none⟩ = some (.slice a1 m c1) ∧ x.cell? ⟨w2.heap.size, 2, none⟩ = some (.slice a2 n c2) ∧ x.cell? ⟨w2.heap.size, 3, none⟩ = some (.slice a3 n c3) ∧ x.cell? ⟨b5, o5 + a, none⟩ = some (.slice (some ⟨b6, o6, none⟩) m cr) ∧ x.cell? ⟨b6, o6 + c, none⟩ = some (.int .i64 X))
    (first | exact ⟨E4.cell k0, E4.cell k1, E4.cell k2, E4.cell k3, E4.cell k5, E4.cell k6⟩ | exact ⟨E3.cell k0, E3.cell k1, E3.cell k2, E3.cell k3, E3.cell k5, E3.cell k6⟩ | exact ⟨k0, k1, k2, k3, k5, k6⟩ | go_keep)
    ((first
      | (go_at_call 68; refine (tFeasible_b bl _ (withT (atkT x p) a c 0 G) _ HBL.out HTW.out HO1.out).mono ?_; rintro e w4 ⟨x4, rfl, u4⟩; have E4 := E3.trans u4)
      | (go_at_call 25; refine (tWith_c (atkT x p) a0 a1 a2 a3 c0 c1 c2 c3 n m a c 0 G _ HN1.out HM1.out HRD.out HOK.out ha hc).mono ?_; rintro e w3 ⟨a4, a5, c4, c5, mid, r4, r5, rfl, g4, g5, t1, t2, t3, t4, u3⟩; have HTW := Lib.hid (HT1.out 0 G _ w3 a4 a5 c4 c5 mid _ r4 r5 HRD.out u3 g4 g5 t1 t2 t3 t4); clear g4 g5; have E3 := (Ext.refl ws).drew.trans u3)
      | (go_at_call 100; refine (vGoal_c G X down _ HG.out hxe ⟨l1, l2⟩).mono ?_; rintro e wg ⟨rfl, rfl⟩)))
  have b4 := b0.ext E4
  have y0 : w4.cell? ⟨w2.heap.size, 0, none⟩ = some (.slice a0 n c0) := b4.cell 0 (by simp)
  have y1 : w4.cell? ⟨w2.heap.size, 1, none⟩ = some (.slice a1 m c1) := b4.cell 1 (by simp)
  have y2 : w4.cell? ⟨w2.heap.size, 2, none⟩ = some (.slice a2 n c2) := b4.cell 2 (by simp)
  have y3 : w4.cell? ⟨w2.heap.size, 3, none⟩ = some (.slice a3 n c3) := b4.cell 3 (by simp)
  have y5 := Ext.cell E4 k5
  have y6 := Ext.cell E4 k6
  have X4 := uX.trans E4
  have HRD4 : Hid (TrR w4.drew (.agg #[.slice a0 n c0, .slice a1 m c1, .slice a2 n c2, .slice a3 n c3]) (atkT x p)) := Lib.hid (HR.out.ext (uA.trans E4).drew)
  clear HTW
  have hw5 : IntKind.i64.wrap (X + up) = X + up := IntWalk.i64_in _ (by omega)
  cases bl
  · go_wp2
    go_ret
    exact ⟨rfl, X4⟩
  · go_wp2_with fail
    go_region_held3 (fun x => x.cell? ⟨w2.heap.size, 0, none⟩ = some (.slice a0 n c0) ∧ x.cell? ⟨w2.heap.size, 1, none⟩ = some (.slice a1 m c1) ∧ x.cell? ⟨w2.heap.size, 2, none⟩ = some (.slice a2 n c2) ∧ x.cell? ⟨w2.heap.size, 3, none⟩ = some (.slice a3 n c3) ∧ x.cell? ⟨b5, o5 + a, none⟩ = some (.slice (some ⟨b6, o6, none⟩) m cr) ∧ x.cell? ⟨b6, o6 + c, none⟩ = some (.int .i64 X))
      (first | exact ⟨E6.cell y0, E6.cell y1, E6.cell y2, E6.cell y3, E6.cell y5, E6.cell y6⟩ | exact ⟨E5.cell y0, E5.cell y1, E5.cell y2, E5.cell y3, E5.cell y5, E5.cell y6⟩ | exact ⟨y0, y1, y2, y3, y5, y6⟩ | go_keep)
      ((first
        | (go_at_call 68; refine (tFeasible_b bh _ (withT (atkT x p) a c (X + up) 100000) _ HBH.out HTW.out HO2.out).mono ?_; rintro e w6 ⟨x6, rfl, u6⟩; have E6 := E5.trans u6)
        | (go_at_call 25; refine (tWith_c (atkT x p) a0 a1 a2 a3 c0 c1 c2 c3 n m a c (X + up) 100000 _ HN1.out HM1.out HRD4.out HOK.out ha hc).mono ?_; rintro e w5 ⟨a4, a5, c4, c5, mid, r4, r5, rfl, g4, g5, t1, t2, t3, t4, u5⟩; have HTW := Lib.hid (HT1.out (X + up) 100000 _ w5 a4 a5 c4 c5 mid _ r4 r5 HRD4.out u5 g4 g5 t1 t2 t3 t4); clear g4 g5; have E5 := (Ext.refl w4).drew.trans u5)))
    go_wp2
    go_ret
    exact ⟨rfl, X4.trans E6⟩
end Go.Proofs.Ytodnkahnbidgaaa
