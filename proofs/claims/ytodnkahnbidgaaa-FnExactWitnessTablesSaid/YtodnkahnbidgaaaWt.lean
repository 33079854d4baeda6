/- Hidden cells, their safety, and two tables that meet their bounds. -/
import Derived.Test.YtodnkahnbidgaaaAtk
import Derived.Test.YtodnkahnbidgaaaLowP
import Derived.Test.YtodnkahnbidgaaaQnet
import Derived.Test.YtodnkahnbidgaaaSrange
import Derived.Test.YtodnkahnbidgaaaRangeW
import Derived.Test.YtodnkahnbidgaaaTr
import Derived.Test.YtodnkahnbidgaaaMix2
import Derived.Test.YtodnkahnbidgaaaSwith
import Derived.Test.YtodnkahnbidgaaaFir
import Derived.Test.YtodnkahnbidgaaaOb
import Derived.BigRegion
namespace Go.Proofs.Ytodnkahnbidgaaa
open Go.RowKit
open Fm

section
variable {x p : List (List Int)}
theorem pub_rc (h : pubB x p = true) : Rc x.length (rowAt x 0).length x := by
  have hm := pub_matOk h
  exact ⟨rfl, hm.row⟩
theorem atk_rl (x p : List (List Int)) : (atkT x p).rows.length = x.length := rowS_length x
theorem atk_cl (x p : List (List Int)) : (atkT x p).cols.length = (rowAt x 0).length := colS_length x _
theorem mapG_rc {n m : Nat} {x : List (List Int)} (h : Rc n m x) (f : Nat → Nat → Int → Int) : Rc n m (mapG f x) := by
  refine ⟨by rw [mapG_length, h.len], fun i hi => ?_⟩
  rw [rowAt_mapG (by rw [h.len]; exact hi), rowF_length, h.row i hi]
theorem el_mapG {n m : Nat} {x : List (List Int)} (h : Rc n m x) (f : Nat → Nat → Int → Int) {i j : Nat} (hi : i < n) (hj : j < m) : elOf (mapG f x) i j = f i j (elOf x i j) := by
  unfold elOf
  rw [rowAt_mapG (by rw [h.len]; exact hi), ix_rowF (by rw [h.row i hi]; exact hj)]
theorem pub_el (h : pubB x p = true) {i j : Nat} (hi : i < x.length) (hj : j < (rowAt x 0).length) : 0 ≤ elOf x i j ∧ elOf x i j ≤ 1000 :=
  gridB_elem (pubB_shape h).1 hi (by rw [(pub_rc h).row i hi]; exact hj)
theorem atk_lo (h : pubB x p = true) {i j : Nat} (hi : i < x.length) (hj : j < (rowAt x 0).length) : elOf (atkT x p).lo i j = if elOf p i j = 1 then 0 else elOf x i j := el_mapG (pub_rc h) (atkLo p) hi hj
theorem atk_hi (h : pubB x p = true) {i j : Nat} (hi : i < x.length) (hj : j < (rowAt x 0).length) : elOf (atkT x p).hi i j = if elOf p i j = 1 then 100000 else elOf x i j := el_mapG (pub_rc h) (atkHi p) hi hj
theorem atk_dims (h : pubB x p = true) : 1 ≤ x.length ∧ x.length ≤ 8 ∧ 1 ≤ (rowAt x 0).length ∧ (rowAt x 0).length ≤ 8 := by
  have sh := pubB_shape h
  have := sh.2.2.2.2 0 (by omega)
  omega
theorem S_le_const {n N : Nat} {f : Nat → Int} {c : Int} (h : ∀ i, i < n → 0 ≤ f i ∧ f i ≤ c) (hn : n ≤ N) (hc : 0 ≤ c) : 0 ≤ S n f ∧ S n f ≤ N * c := by
  refine ⟨S_nonneg (fun i hi => (h i hi).1), ?_⟩
  have h1 : S n f ≤ S n (fun _ => c) := S_le (fun i hi => (h i hi).2)
  have h2 := S_const_le (n := n) (N := N) (c := c) hn hc
  omega
theorem atk_ok (h : pubB x p = true) : TrOk (atkT x p) := by
  have hd := atk_dims h
  have hr := pub_rc h
  refine trOk_of ?_ ?_ ?_ ?_ (fun i j hi hj => ?_)
  · have e : allIn 0 100000 (atkT x p).rows = true := allIn_of (fun i hi => by
      rw [atk_rl] at hi
      show 0 ≤ ix (rowS x) i ∧ ix (rowS x) i ≤ 100000
      rw [ix_rowS hi, hr.rowsum hi]
      have := S_le_const (n := (rowAt x 0).length) (N := 8) (f := elOf x i) (c := 1000) (fun j hj => pub_el h hi hj) (by omega) (by omega)
      omega)
    unfold sumsB
    rw [e, atk_rl]; simp; omega
  · have e : allIn 0 100000 (atkT x p).cols = true := allIn_of (fun j hj => by
      rw [atk_cl] at hj
      show 0 ≤ ix (colS x _) j ∧ ix (colS x _) j ≤ 100000
      rw [ix_colS hj, hr.colsum j]
      have := S_le_const (n := x.length) (N := 8) (f := fun i => elOf x i j) (c := 1000) (fun i hi => pub_el h hi hj) (by omega) (by omega)
      omega)
    unfold sumsB
    rw [e, atk_cl]; simp; omega
  · rw [atk_rl, atk_cl]; exact mapG_rc hr _
  · rw [atk_rl, atk_cl]; exact mapG_rc hr _
  · rw [atk_rl] at hi
    rw [atk_cl] at hj
    have := pub_el h hi hj
    rw [atk_lo h hi hj, atk_hi h hi hj]
    split <;> omega
theorem atk_flow (h : pubB x p = true) : Flow (NetT (atkT x p)) (elOf x) := by
  have hr := pub_rc h
  have en : (NetT (atkT x p)).n = x.length := atk_rl x p
  have em : (NetT (atkT x p)).m = (rowAt x 0).length := atk_cl x p
  refine ⟨fun i j hi hj => ?_, fun i j hi hj => ?_, fun i hi => ?_, fun j hj => ?_⟩
  · rw [en] at hi
    rw [em] at hj
    have := pub_el h hi hj
    show elOf (atkT x p).lo i j ≤ _
    rw [atk_lo h hi hj]
    split <;> omega
  · rw [en] at hi
    rw [em] at hj
    have := pub_el h hi hj
    show _ ≤ elOf (atkT x p).hi i j
    rw [atk_hi h hi hj]
    split <;> omega
  · rw [en] at hi
    rw [em]
    show _ = ix (rowS x) i
    rw [ix_rowS hi, hr.rowsum hi]
  · rw [em] at hj
    rw [en]
    show _ = ix (colS x _) j
    rw [ix_colS hj, hr.colsum j]
theorem atk_feas (h : pubB x p = true) : feasB (atkT x p) = true := feasB_of ⟨_, atk_flow h⟩
/-- the least and the greatest value of a cell in all tables that agree with what is published -/
noncomputable def qLo (x p : List (List Int)) (i j : Nat) : Int := lowV (atkT x p) i j
noncomputable def qHi (x p : List (List Int)) (i j : Nat) : Int := highV (atkT x p) i j
theorem q_bound (h : pubB x p = true) {i j : Nat} (hi : i < x.length) (hj : j < (rowAt x 0).length) : 0 ≤ qLo x p i j ∧ qLo x p i j ≤ elOf x i j ∧ elOf x i j ≤ qHi x p i j ∧ qHi x p i j ≤ 100000 := by
  have hi' : i < (atkT x p).rows.length := by rw [atk_rl]; exact hi
  have hj' : j < (atkT x p).cols.length := by rw [atk_cl]; exact hj
  have hf : ∃ y, Flow (NetT (atkT x p)) y := ⟨_, atk_flow h⟩
  have h1 := (low_is hi' hj' hf).2 _ (atk_flow h)
  have h2 := (high_is hi' hj' hf).2 _ (atk_flow h)
  have h3 := low_bound hi' hj' hf
  have h4 := (atk_ok h).el hi' hj'
  unfold qLo qHi
  omega
/-- a cell that is published has but its own value -/
theorem q_shown (h : pubB x p = true) {i j : Nat} (hi : i < x.length) (hj : j < (rowAt x 0).length) (hp : elOf p i j ≠ 1) : qLo x p i j = elOf x i j ∧ qHi x p i j = elOf x i j := by
  have hi' : i < (atkT x p).rows.length := by rw [atk_rl]; exact hi
  have hj' : j < (atkT x p).cols.length := by rw [atk_cl]; exact hj
  have hf : ∃ y, Flow (NetT (atkT x p)) y := ⟨_, atk_flow h⟩
  have h3 := low_bound hi' hj' hf
  rw [atk_lo h hi hj, atk_hi h hi hj, if_neg hp, if_neg hp] at h3
  unfold qLo qHi
  omega
/-- whether a flow keeps below a goal, or gets up to one -/
theorem feas_low {T : Tr} (ho : TrOk T) {i j : Nat} (hi : i < T.rows.length) (hj : j < T.cols.length) (hf : ∃ x, Flow (NetT T) x) {g : Int} (hg : g ≤ elOf T.hi i j) : feasB (withT T i j (elOf T.lo i j) g) = decide (lowV T i j ≤ g) := by
  have hl := low_is hi hj hf
  by_cases h : lowV T i j ≤ g
  · obtain ⟨⟨x, hx, e⟩, _⟩ := hl
    have h0 : elOf T.lo i j ≤ x i j := hx.lo i j hi hj
    rw [feasB_of ⟨x, (flow_withT ho hi hj (Int.le_refl _) hg x).2 ⟨hx, h0, by omega⟩⟩]
    simp [h]
  · rw [feasB_not (by
      rintro ⟨x, hx⟩
      have h9 := (flow_withT ho hi hj (Int.le_refl _) hg x).1 hx
      have := hl.2 x h9.1
      omega)]
    simp [h]
theorem feas_high {T : Tr} (ho : TrOk T) {i j : Nat} (hi : i < T.rows.length) (hj : j < T.cols.length) (hf : ∃ x, Flow (NetT T) x) {g : Int} (hg : elOf T.lo i j ≤ g) : feasB (withT T i j g (elOf T.hi i j)) = decide (g ≤ highV T i j) := by
  have hl := high_is hi hj hf
  by_cases h : g ≤ highV T i j
  · obtain ⟨⟨x, hx, e⟩, _⟩ := hl
    have h0 : x i j ≤ elOf T.hi i j := hx.hi i j hi hj
    rw [feasB_of ⟨x, (flow_withT ho hi hj hg (Int.le_refl _) x).2 ⟨hx, by omega, h0⟩⟩]
    simp [h]
  · rw [feasB_not (by
      rintro ⟨x, hx⟩
      have h9 := (flow_withT ho hi hj hg (Int.le_refl _) x).1 hx
      have := hl.2 x h9.1
      omega)]
    simp [h]
end
theorem prot_low {x p : List (List Int)} (h : pubB x p = true) {i j : Nat} (hi : i < x.length) (hj : j < (rowAt x 0).length) (hp : elOf p i j = 1) {g : Int} (hg : g ≤ 100000) : feasB (withT (atkT x p) i j 0 g) = decide (qLo x p i j ≤ g) := by
  have h1 := feas_low (atk_ok h) (i := i) (j := j) (by rw [atk_rl]; exact hi) (by rw [atk_cl]; exact hj) ⟨_, atk_flow h⟩ (g := g) (by rw [atk_hi h hi hj, if_pos hp]; exact hg)
  rw [atk_lo h hi hj, if_pos hp] at h1
  exact h1
theorem prot_high {x p : List (List Int)} (h : pubB x p = true) {i j : Nat} (hi : i < x.length) (hj : j < (rowAt x 0).length) (hp : elOf p i j = 1) {g : Int} (hg : 0 ≤ g) : feasB (withT (atkT x p) i j g 100000) = decide (g ≤ qHi x p i j) := by
  have h1 := feas_high (atk_ok h) (i := i) (j := j) (by rw [atk_rl]; exact hi) (by rw [atk_cl]; exact hj) ⟨_, atk_flow h⟩ (g := g) (by rw [atk_lo h hi hj, if_pos hp]; exact hg)
  rw [atk_hi h hi hj, if_pos hp] at h1
  exact h1
theorem prot_ok {x p : List (List Int)} (h : pubB x p = true) {i j : Nat} (hi : i < x.length) (hj : j < (rowAt x 0).length) {a b : Int} (hab : 0 ≤ a ∧ a ≤ b ∧ b ≤ 100000) : TrOk (withT (atkT x p) i j a b) :=
  withT_ok (atk_ok h) (by rw [atk_rl]; exact hi) (by rw [atk_cl]; exact hj) hab
end Go.Proofs.Ytodnkahnbidgaaa
namespace Go.Proofs.Ytodnkahnbidgaaa
open Go.RowKit
open Fm

def inB (n : Nat) (i : Int) : Bool := decide (0 ≤ i) && decide (i < n)
theorem inB_true {n : Nat} {i : Int} : inB n i = true ↔ 0 ≤ i ∧ i < n := by simp [inB]
theorem inB_false {n : Nat} {i : Int} : inB n i = false ↔ ¬ (0 ≤ i ∧ i < n) := by
  rw [← inB_true]; simp
def hidB (x p : List (List Int)) (i j : Int) : Bool := pubB x p && (inB x.length i && (inB (rowAt x 0).length j && decide (elOf p i.toNat j.toNat = 1)))
theorem hidB_true {x p : List (List Int)} {i j : Int} (h : hidB x p i j = true) : pubB x p = true ∧ ∃ a b : Nat, i = a ∧ j = b ∧ a < x.length ∧ b < (rowAt x 0).length ∧ elOf p a b = 1 := by
  simp only [hidB, Bool.and_eq_true, inB_true, decide_eq_true_eq] at h
  refine ⟨h.1, i.toNat, j.toNat, by omega, by omega, by omega, by omega, h.2.2.2⟩
theorem pat_rc {x p : List (List Int)} (h : pubB x p = true) : Rc x.length (rowAt x 0).length p := by
  have sh := pubB_shape h
  exact ⟨sh.2.1, fun i hi => by rw [(sh.2.2.2.2 i hi).2.2]; exact (pub_rc h).row i hi⟩

set_option maxRecDepth 100000 in
set_option maxHeartbeats 1600000 in
theorem vCell_b (b : Bool) (v1 : Value) (x : List (List Int)) (v2 : Value) (p : List (List Int)) (i j : Int) (w : World) (hb : hidB x p i j = b) (h1 : Grid w v1 x) (h2 : Grid w v2 p) :
    Calls Try.prog 21 #[v1, v2, .int .i64 i, .int .i64 j] w fun e w' => e = .returned (.bool b) ∧ Ext w w' := by
  subst hb
  have H1 := Lib.hid h1
  have H2 := Lib.hid h2
  obtain ⟨ax, cx, rfl, x1, x2, x3⟩ := h1
  have GX := Lib.hid x3; clear x3
  obtain ⟨ap, cp, rfl, p1, p2, p3⟩ := h2
  have GP := Lib.hid p3; clear p3
  cases hp : pubB x p
  · have hB : hidB x p i j = false := by simp only [hidB, hp, Bool.false_and]
    rw [hB]; clear hB
    have HP := Lib.hid (show (gridB 8 1000 x && patB x p) = false from hp); clear hp
    go_enter Try.func21, Try.ntmps21
    go_wp2_with fail
    refine (qPattern_b false _ _ x p _ HP.out H1.out H2.out).mono ?_
    rintro e w1 ⟨rfl, d1⟩
    have u1 := Drew.ext d1
    go_wp2
    go_ret
    exact ⟨rfl, u1⟩
  have HP := Lib.hid (show (gridB 8 1000 x && patB x p) = true from hp)
  have hd := atk_dims hp
  have HRX := Lib.hid (pub_rc hp)
  have HRP := Lib.hid (pat_rc hp)
  have HPB := Lib.hid hp; clear hp
  obtain ⟨b0, o0, r0, cr0, rfl, hc0, q1, q2, q3⟩ := GX.out.at_ (k := 0) (by omega)
  clear q3
  rw [Nat.add_zero] at hc0
  obtain ⟨m, hm⟩ : ∃ m, (rowAt x 0).length = m := ⟨_, rfl⟩
  rw [hm] at hc0 q1 hd HRX HRP
  have HM := Lib.hid hm; clear hm
  cases hi : inB x.length i
  · have hB : hidB x p i j = false := by simp only [hidB, hi, Bool.false_and, Bool.and_false]
    rw [hB]; clear hB
    have HI : Hid ((decide (0 ≤ i) && decide (i ≤ (x.length : Int) - 1)) = false) := Lib.hid (by have := inB_false.1 hi; rw [Bool.and_eq_false_iff]; simp only [decide_eq_false_iff_not]; omega)
    clear hi
    go_enter Try.func21, Try.ntmps21
    go_wp2_with fail
    refine (qPattern_b true _ _ x p _ HP.out H1.out H2.out).mono ?_
    rintro e w1 ⟨rfl, d1⟩
    have u1 := Drew.ext d1
    have z0 := Ext.cell u1 hc0
    go_wp2_with fail
    refine (l1In_b false i 0 ((x.length : Int) - 1) _ HI.out).mono ?_
    rintro e w2 ⟨rfl, rfl⟩
    go_wp2
    go_ret
    exact ⟨rfl, u1⟩
  have HI : Hid ((decide (0 ≤ i) && decide (i ≤ (x.length : Int) - 1)) = true) := Lib.hid (by have := inB_true.1 hi; rw [Bool.and_eq_true]; simp only [decide_eq_true_eq]; omega)
  cases hj : inB m j
  · have hB : hidB x p i j = false := by simp only [hidB, HM.out, hj, Bool.false_and, Bool.and_false]
    rw [hB]; clear hB
    have HJ : Hid ((decide (0 ≤ j) && decide (j ≤ (m : Int) - 1)) = false) := Lib.hid (by have := inB_false.1 hj; rw [Bool.and_eq_false_iff]; simp only [decide_eq_false_iff_not]; omega)
    clear hi hj
    go_enter Try.func21, Try.ntmps21
    go_wp2_with fail
    refine (qPattern_b true _ _ x p _ HP.out H1.out H2.out).mono ?_
    rintro e w1 ⟨rfl, d1⟩
    have u1 := Drew.ext d1
    have z0 := Ext.cell u1 hc0
    go_wp2_with fail
    refine (l1In_b true i 0 ((x.length : Int) - 1) _ HI.out).mono ?_
    rintro e w2 ⟨rfl, rfl⟩
    go_wp2_with fail
    refine (l1In_b false j 0 ((m : Int) - 1) _ HJ.out).mono ?_
    rintro e w2 ⟨rfl, rfl⟩
    go_wp2
    go_ret
    exact ⟨rfl, u1⟩
  have HJ : Hid ((decide (0 ≤ j) && decide (j ≤ (m : Int) - 1)) = true) := Lib.hid (by have := inB_true.1 hj; rw [Bool.and_eq_true]; simp only [decide_eq_true_eq]; omega)
  have hi' := inB_true.1 hi
  have hj' := inB_true.1 hj
  obtain ⟨a, rfl⟩ : ∃ k : Nat, i = k := ⟨i.toNat, by omega⟩
  obtain ⟨c, rfl⟩ : ∃ k : Nat, j = k := ⟨j.toNat, by omega⟩
  have han : a < x.length := by omega
  have hcm : c < m := by omega
  obtain ⟨b5, o5, ar, cr, rfl, hc5, r1, r2, r3⟩ := GP.out.at_ (k := a) (by rw [HRP.out.len]; exact han)
  obtain ⟨b6, o6, rfl, hx6⟩ := r3 c (by rw [HRP.out.row a han]; exact hcm)
  rw [HRP.out.row a han] at hc5 r1
  have q6 : ix (rowAt p a) c = elOf p a c := rfl
  rw [q6] at hx6
  clear q6 r3
  have hB : hidB x p (a : Int) (c : Int) = decide (elOf p a c = 1) := by simp [hidB, HPB.out, hi, HM.out, hj]
  rw [hB]; clear hB
  have hpl : p.length = x.length := HRP.out.len
  rw [hpl]
  rw [hpl] at p1 H2
  clear hpl hi hj hi' hj'
  by_cases h1 : elOf p a c = 1
  · have hq : (elOf p a c == 1) = true := by simp [h1]
    have hd : decide (elOf p a c = 1) = true := by simp [h1]
    rw [hd]; clear hd h1
    go_enter Try.func21, Try.ntmps21
    go_wp2_with fail
    refine (qPattern_b true _ _ x p _ HP.out H1.out H2.out).mono ?_
    rintro e w1 ⟨rfl, d1⟩
    have u1 := Drew.ext d1
    have z0 := Ext.cell u1 hc0
    have z5 := Ext.cell u1 hc5
    have z6 := Ext.cell u1 hx6
    go_wp2_with fail
    refine (l1In_b true a 0 ((x.length : Int) - 1) _ HI.out).mono ?_
    rintro e w2 ⟨rfl, rfl⟩
    go_wp2_with fail
    refine (l1In_b true c 0 ((m : Int) - 1) _ HJ.out).mono ?_
    rintro e w2 ⟨rfl, rfl⟩
    go_wp2
    go_ret
    exact ⟨rfl, u1⟩
  · have hq : (elOf p a c == 1) = false := by simp [h1]
    have hd : decide (elOf p a c = 1) = false := by simp [h1]
    rw [hd]; clear hd h1
    go_enter Try.func21, Try.ntmps21
    go_wp2_with fail
    refine (qPattern_b true _ _ x p _ HP.out H1.out H2.out).mono ?_
    rintro e w1 ⟨rfl, d1⟩
    have u1 := Drew.ext d1
    have z0 := Ext.cell u1 hc0
    have z5 := Ext.cell u1 hc5
    have z6 := Ext.cell u1 hx6
    go_wp2_with fail
    refine (l1In_b true a 0 ((x.length : Int) - 1) _ HI.out).mono ?_
    rintro e w2 ⟨rfl, rfl⟩
    go_wp2_with fail
    refine (l1In_b true c 0 ((m : Int) - 1) _ HJ.out).mono ?_
    rintro e w2 ⟨rfl, rfl⟩
    go_wp2
    go_ret
    exact ⟨rfl, u1⟩
set_option maxRecDepth 100000 in
set_option maxHeartbeats 1600000 in
theorem isHidden_b (b : Bool) (x : List (List Int)) (v2 : Value) (p : List (List Int)) (i j : Int) (w : World) (hp : pubB x p = true) (hb : hidB x p i j = b) (h2 : Grid w v2 p) :
    Calls Try.prog 28 #[v2, .int .i64 i, .int .i64 j] w fun e w' => e = .returned (.bool b) ∧ Ext w w' := by
  subst hb
  obtain ⟨ap, cp, rfl, p1, p2, p3⟩ := h2
  have GP := Lib.hid p3; clear p3
  have HRP := Lib.hid (pat_rc hp)
  obtain ⟨m, hm⟩ : ∃ m, (rowAt x 0).length = m := ⟨_, rfl⟩
  rw [hm] at HRP
  obtain ⟨n, hn⟩ : ∃ n, x.length = n := ⟨_, rfl⟩
  rw [hn] at HRP
  have hpl : p.length = n := HRP.out.len
  have hB : hidB x p i j = (inB n i && (inB m j && decide (elOf p i.toNat j.toNat = 1))) := by simp [hidB, hp, hn, hm]
  rw [hB, hpl]
  rw [hpl] at p1
  clear hB hpl hp hm hn
  by_cases n1 : 0 ≤ i
  case neg =>
    have hI : inB n i = false := inB_false.2 (by omega)
    rw [hI, Bool.false_and]
    clear hI
    go_enter Try.func28, Try.ntmps28
    go_wp2
    go_ret
    exact ⟨rfl, Ext.refl _⟩
  by_cases n2 : i < n
  case neg =>
    have hI : inB n i = false := inB_false.2 (by omega)
    rw [hI, Bool.false_and]
    clear hI
    go_enter Try.func28, Try.ntmps28
    go_wp2
    go_ret
    exact ⟨rfl, Ext.refl _⟩
  have hI : inB n i = true := inB_true.2 ⟨n1, n2⟩
  rw [hI, Bool.true_and]
  clear hI
  obtain ⟨a, rfl⟩ : ∃ k : Nat, i = k := ⟨i.toNat, by omega⟩
  have han : a < n := by omega
  obtain ⟨b5, o5, ar, cr, rfl, hc5, r1, r2, r3⟩ := GP.out.at_ (k := a) (by rw [HRP.out.len]; exact han)
  have R3 := Lib.hid r3; clear r3
  have hrl := HRP.out.row a han
  rw [hrl] at hc5 r1
  have HRL := Lib.hid hrl; clear hrl n1 n2
  by_cases n3 : 0 ≤ j
  case neg =>
    have hI : inB m j = false := inB_false.2 (by omega)
    rw [hI, Bool.false_and]
    clear hI
    go_enter Try.func28, Try.ntmps28
    go_wp2
    go_ret
    exact ⟨rfl, Ext.refl _⟩
  by_cases n4 : j < m
  case neg =>
    have hI : inB m j = false := inB_false.2 (by omega)
    rw [hI, Bool.false_and]
    clear hI
    go_enter Try.func28, Try.ntmps28
    go_wp2
    go_ret
    exact ⟨rfl, Ext.refl _⟩
  have hI : inB m j = true := inB_true.2 ⟨n3, n4⟩
  rw [hI, Bool.true_and]
  clear hI
  obtain ⟨c, rfl⟩ : ∃ k : Nat, j = k := ⟨j.toNat, by omega⟩
  have hcm : c < m := by omega
  obtain ⟨b6, o6, rfl, hx6⟩ := R3.out c (by rw [HRL.out]; exact hcm)
  have q6 : ix (rowAt p a) c = elOf p a c := rfl
  rw [q6] at hx6
  clear q6 n3 n4
  simp only [Int.toNat_natCast]
  by_cases h1 : elOf p a c = 1
  · have hq : (elOf p a c == 1) = true := by simp [h1]
    have hd : decide (elOf p a c = 1) = true := by simp [h1]
    rw [hd]; clear hd h1
    go_enter Try.func28, Try.ntmps28
    go_wp2
    go_ret
    exact ⟨rfl, Ext.refl _⟩
  · have hq : (elOf p a c == 1) = false := by simp [h1]
    have hd : decide (elOf p a c = 1) = false := by simp [h1]
    rw [hd]; clear hd h1
    go_enter Try.func28, Try.ntmps28
    go_wp2
    go_ret
    exact ⟨rfl, Ext.refl _⟩
end Go.Proofs.Ytodnkahnbidgaaa
namespace Go.Proofs.Ytodnkahnbidgaaa
open Go.RowKit
open Fm

noncomputable def smDown (x p : List (List Int)) (i j : Int) : Int := if hidB x p i j = true then elOf x i.toNat j.toNat - qLo x p i.toNat j.toNat else 0
noncomputable def smUp (x p : List (List Int)) (i j : Int) : Int := if hidB x p i j = true then qHi x p i.toNat j.toNat - elOf x i.toNat j.toNat else 0
/-- protected: the least value at most max 0 (value - down), the greatest at least value + up -/
noncomputable def protB (x p : List (List Int)) (i j : Nat) (down up : Int) : Bool := decide (qLo x p i j ≤ imax (elOf x i j - down) 0) && decide (elOf x i j + up ≤ qHi x p i j)
def levB (down up : Int) : Bool := (decide (0 ≤ down) && decide (down ≤ 1000)) && (decide (0 ≤ up) && decide (up ≤ 1000))
noncomputable def ipB (x p : List (List Int)) (i j down up : Int) : Bool := hidB x p i j && levB down up
noncomputable def ipV (x p : List (List Int)) (i j down up : Int) : Bool := ipB x p i j down up && protB x p i.toNat j.toNat down up
/-- an attack's network in memory, its fields' lengths as those of the table -/
theorem atk_form {x p : List (List Int)} (h : pubB x p = true) {w : World} {v : Value} (hr : TrR w v (atkT x p)) : ∃ a0 c0 a1 c1 a2 c2 a3 c3, v = .agg #[.slice a0 x.length c0, .slice a1 (rowAt x 0).length c1, .slice a2 x.length c2, .slice a3 x.length c3] := by
  obtain ⟨a0, c0, a1, c1, a2, c2, a3, c3, rfl, _⟩ := hr.form
  have e1 : (atkT x p).lo.length = x.length := by rw [(atk_ok h).rcLo.len, atk_rl]
  have e2 : (atkT x p).hi.length = x.length := by rw [(atk_ok h).rcHi.len, atk_rl]
  rw [atk_rl, atk_cl, e1, e2]
  exact ⟨a0, c0, a1, c1, a2, c2, a3, c3, rfl⟩

end Go.Proofs.Ytodnkahnbidgaaa
namespace Go.Proofs.Ytodnkahnbidgaaa
open Go.RowKit

theorem gb_row {v : Value} {rvs : List Value} {xss : List (List Int)} {i j : Nat} (hi : i < xss.length) (hj : j < (rowAt xss i).length) {b o n c : Nat} (hv : rvAt rvs i = .slice (some ⟨b, o, none⟩) n c) : GB v rvs xss b :=
  .inr ⟨i, hi, by intro e; rw [e] at hj; simp at hj, by rw [hv]; rfl⟩
theorem gb_set {v : Value} {rvs : List Value} {xss : List (List Int)} {i j b : Nat} {x : Int} (h : GB v rvs (setEl xss i j x) b) : GB v rvs xss b := by
  rcases h with ⟨h1, h2⟩ | ⟨k, hk, hr, e⟩
  · exact .inl ⟨fun e => h1 (by simp [setEl, e]), h2⟩
  · rw [setEl_len] at hk
    refine .inr ⟨k, hk, fun e2 => hr ?_, e⟩
    unfold setEl
    rw [rowAt_set]
    split
    · rename_i hh; rw [← hh.1, e2]; rfl
    · exact e2

theorem TrO.two {lo hi : Nat} {w : World} {a0 a1 a2 a3 : Option Addr} {c0 c1 c2 c3 n m : Nat} {T : Tr} (h : TrO lo hi w (.agg #[.slice a0 n c0, .slice a1 m c1, .slice a2 n c2, .slice a3 n c3]) T) (r2 : Rc n m T.lo) (r3 : Rc n m T.hi) {i j : Nat} (hi' : i < n) (hj : j < m) :
    ∃ b2 o2 p2 q2 k2 b3 o3 p3 q3 k3 : Nat, a2 = some ⟨b2, o2, none⟩ ∧ a3 = some ⟨b3, o3, none⟩ ∧ w.cell? ⟨b2, o2 + i, none⟩ = some (.slice (some ⟨p2, q2, none⟩) m k2) ∧ w.cell? ⟨b3, o3 + i, none⟩ = some (.slice (some ⟨p3, q3, none⟩) m k3) ∧
      w.cell? ⟨p2, q2 + j, none⟩ = some (.int .i64 (elOf T.lo i j)) ∧ w.cell? ⟨p3, q3 + j, none⟩ = some (.int .i64 (elOf T.hi i j)) ∧ w.frozen? ⟨p2, q2 + j, none⟩ = false ∧ w.frozen? ⟨p3, q3 + j, none⟩ = false ∧ (lo ≤ p2 ∧ p2 < hi) ∧ (lo ≤ p3 ∧ p3 < hi) ∧ p2 ≠ p3 ∧
      (∀ x : Int, TrO lo hi (w.setCell ⟨p3, q3 + j, none⟩ (.int .i64 x)) (.agg #[.slice a0 n c0, .slice a1 m c1, .slice a2 n c2, .slice a3 n c3]) ⟨T.rows, T.cols, T.lo, setEl T.hi i j x⟩) ∧
      (∀ x y : Int, TrO lo hi ((w.setCell ⟨p3, q3 + j, none⟩ (.int .i64 x)).setCell ⟨p2, q2 + j, none⟩ (.int .i64 y)) (.agg #[.slice a0 n c0, .slice a1 m c1, .slice a2 n c2, .slice a3 n c3]) ⟨T.rows, T.cols, setEl T.lo i j y, setEl T.hi i j x⟩) := by
  obtain ⟨v0, v1, v2, v3, rv2, rv3, hv, s0, s1, s2, s3, d01, d02, d03, d12, d13, d23⟩ := h
  simp only [Value.agg.injEq, Array.mk.injEq, List.cons.injEq, and_true] at hv
  obtain ⟨rfl, rfl, rfl, rfl⟩ := hv
  have hl2 := r2.len
  have hl3 := r3.len
  obtain ⟨x2, y2, e2, l2, l2', g2⟩ := id s2
  obtain ⟨x3, y3, e3, l3, l3', g3⟩ := id s3
  simp only [Value.slice.injEq] at e2 e3
  obtain ⟨rfl, _, rfl⟩ := e2
  obtain ⟨rfl, _, rfl⟩ := e3
  have hi2 : i < T.lo.length := by omega
  have hi3 : i < T.hi.length := by omega
  have hj2 : j < (rowAt T.lo i).length := by rw [r2.row i hi']; exact hj
  have hj3 : j < (rowAt T.hi i).length := by rw [r3.row i hi']; exact hj
  obtain ⟨b2, o2, rfl, _, _, _, hc2, _⟩ := g2.at_ hi2
  obtain ⟨b3, o3, rfl, _, _, _, hc3, _⟩ := g3.at_ hi3
  obtain ⟨ar2, k2, ev2, i2, _⟩ := g2.rowForm hi2
  obtain ⟨ar3, k3, ev3, i3, _⟩ := g3.rowForm hi3
  rw [r2.row i hi'] at ev2
  rw [r3.row i hi'] at ev3
  rw [ev2] at hc2
  rw [ev3] at hc3
  obtain ⟨p2, q2, rfl, m2, m2', _, hx2, f2, _⟩ := g2.store hi2 hj2 ev2
  obtain ⟨p3, q3, rfl, m3, m3', _, hx3, f3, st3⟩ := g3.store hi3 hj3 ev3
  have gb2 : GB (.slice (some ⟨b2, o2, none⟩) n c2) rv2 T.lo p2 := gb_row hi2 hj2 ev2
  have gb3 : GB (.slice (some ⟨b3, o3, none⟩) n c3) rv3 T.hi p3 := gb_row hi3 hj3 ev3
  have hne : p2 ≠ p3 := fun e => d23 p2 gb2 (by rw [e]; exact gb3)
  have U3 : ∀ x : Int, Upd (fun b => b = p3) w (w.setCell ⟨p3, q3 + j, none⟩ (.int .i64 x)) := fun x => (Upd.refl w).setCell _ (fun _ => rfl)
  have G3 : ∀ x : Int, OwnG lo hi (w.setCell ⟨p3, q3 + j, none⟩ (.int .i64 x)) (.slice (some ⟨b3, o3, none⟩) n c3) rv3 (setEl T.hi i j x) := fun x => ⟨_, _, by rw [setEl_len, hl3], by rw [setEl_len]; exact l3, l3', st3 x⟩
  have G2 : ∀ x : Int, OwnG lo hi (w.setCell ⟨p3, q3 + j, none⟩ (.int .i64 x)) (.slice (some ⟨b2, o2, none⟩) n c2) rv2 T.lo := fun x => s2.keepB (U3 x) (fun b hb e => by subst e; exact d23 _ hb gb3)
  have A3 : ∀ x : Int, TrO lo hi (w.setCell ⟨p3, q3 + j, none⟩ (.int .i64 x)) (.agg #[.slice a0 n c0, .slice a1 m c1, .slice (some ⟨b2, o2, none⟩) n c2, .slice (some ⟨b3, o3, none⟩) n c3]) ⟨T.rows, T.cols, T.lo, setEl T.hi i j x⟩ := fun x =>
    ⟨_, _, _, _, rv2, rv3, rfl, s0.keepB (U3 x) (fun b hb e => by subst e; exact d03 _ hb gb3), s1.keepB (U3 x) (fun b hb e => by subst e; exact d13 _ hb gb3), G2 x, G3 x, d01, d02, fun b h1 h2 => d03 b h1 (gb_set h2), d12, fun b h1 h2 => d13 b h1 (gb_set h2), fun b h1 h2 => d23 b h1 (gb_set h2)⟩
  refine ⟨b2, o2, p2, q2, k2, b3, o3, p3, q3, k3, rfl, rfl, hc2, hc3, hx2, hx3, f2, f3, ⟨m2, m2'⟩, ⟨m3, m3'⟩, hne, A3, fun x y => ?_⟩
  have s0' := s0.keepB (U3 x) (fun b hb e => by subst e; exact d03 _ hb gb3)
  have s1' := s1.keepB (U3 x) (fun b hb e => by subst e; exact d13 _ hb gb3)
  obtain ⟨z2, zc, ez, lz, lz', g2'⟩ := id (G2 x)
  simp only [Value.slice.injEq] at ez
  obtain ⟨rfl, _, rfl⟩ := ez
  obtain ⟨p2', q2', ep, _, _, _, _, _, st2⟩ := g2'.store hi2 hj2 ev2
  simp only [Option.some.injEq, Addr.mk.injEq, and_true] at ep
  obtain ⟨rfl, rfl⟩ := ep
  have U2 : Upd (fun b => b = p2) (w.setCell ⟨p3, q3 + j, none⟩ (.int .i64 x)) ((w.setCell ⟨p3, q3 + j, none⟩ (.int .i64 x)).setCell ⟨p2, q2 + j, none⟩ (.int .i64 y)) := (Upd.refl _).setCell _ (fun _ => rfl)
  have G22 : OwnG lo hi ((w.setCell ⟨p3, q3 + j, none⟩ (.int .i64 x)).setCell ⟨p2, q2 + j, none⟩ (.int .i64 y)) (.slice (some ⟨b2, o2, none⟩) n c2) rv2 (setEl T.lo i j y) := ⟨_, _, by rw [setEl_len, hl2], by rw [setEl_len]; exact l2, l2', st2 y⟩
  have G32 : OwnG lo hi ((w.setCell ⟨p3, q3 + j, none⟩ (.int .i64 x)).setCell ⟨p2, q2 + j, none⟩ (.int .i64 y)) (.slice (some ⟨b3, o3, none⟩) n c3) rv3 (setEl T.hi i j x) := (G3 x).keepB U2 (fun b hb e => by subst e; exact d23 _ gb2 (gb_set hb))
  exact ⟨_, _, _, _, rv2, rv3, rfl, s0'.keepB U2 (fun b hb e => by subst e; exact d02 _ hb gb2), s1'.keepB U2 (fun b hb e => by subst e; exact d12 _ hb gb2), G22, G32, d01, fun b h1 h2 => d02 b h1 (gb_set h2), fun b h1 h2 => d03 b h1 (gb_set h2), fun b h1 h2 => d12 b h1 (gb_set h2), fun b h1 h2 => d13 b h1 (gb_set h2), fun b h1 h2 => d23 b (gb_set h1) (gb_set h2)⟩
theorem setEl_same {n m : Nat} {X : List (List Int)} (h : Rc n m X) {i j : Nat} (hi : i < n) (_ : j < m) {v : Int} (hv : elOf X i j = v) : setEl X i j v = X := by
  unfold setEl
  have h1 : (rowAt X i).set j v = rowAt X i := by
    apply List.ext_getElem (by simp)
    intro k h1 h2
    rw [List.getElem_set]
    split
    · rename_i e; subst e
      have : elOf X i j = (rowAt X i)[j] := ix_eq h2
      rw [← hv, this]
    · rfl
  rw [h1]
  have hl : i < X.length := by rw [h.len]; exact hi
  apply List.ext_getElem (by simp)
  intro k h1 h2
  rw [List.getElem_set]
  split
  · rename_i e; subst e; exact rowAt_eq hl
  · rfl
theorem setEl_setEl {X : List (List Int)} {i j : Nat} (hi : i < X.length) (u v : Int) : setEl (setEl X i j u) i j v = setEl X i j v := by
  unfold setEl
  rw [rowAt_set, if_pos ⟨rfl, hi⟩, List.set_set, List.set_set]
theorem Rc.setEl {n m : Nat} {X : List (List Int)} (h : Rc n m X) (i j : Nat) (v : Int) : Rc n m (setEl X i j v) := rc_setEl h i j v
end Go.Proofs.Ytodnkahnbidgaaa
namespace Go.Proofs.Ytodnkahnbidgaaa
open Go.RowKit
open Fm

noncomputable def wtA (x p : List (List Int)) (i j : Int) : List (List Int) := if hidB x p i j = true then firstV (withT (atkT x p) i.toNat j.toNat 0 (qLo x p i.toNat j.toNat)) else []
noncomputable def wtC (x p : List (List Int)) (i j : Int) : List (List Int) := if hidB x p i j = true then firstV (withT (atkT x p) i.toNat j.toNat (qHi x p i.toNat j.toNat) 100000) else []

set_option maxRecDepth 100000 in
set_option maxHeartbeats 3200000 in
theorem specWit_c (v1 : Value) (x : List (List Int)) (v2 : Value) (p : List (List Int)) (i j : Int) (w : World) (h1 : Grid w v1 x) (h2 : Grid w v2 p) :
    Calls Try.prog 7 #[v1, v2, .int .i64 i, .int .i64 j] w (RetGrids (fun v1 v2 => .tuple #[v1, v2, .bool (hidB x p i j)]) w (wtA x p i j) (wtC x p i j)) := by
  have H1 := Lib.hid h1; clear h1
  have H2 := Lib.hid h2; clear h2
  cases hB : hidB x p i j
  · simp only [wtA, wtC, hB, Bool.false_eq_true, if_false]
    have HB := Lib.hid hB; clear hB
    go_enter Try.func7, Try.ntmps7
    go_wp2_with fail
    refine (vCell_b false _ x _ p i j _ HB.out H1.out H2.out).mono ?_
    rintro e w1 ⟨rfl, u1⟩
    go_wp2
    go_ret3
    exact ⟨_, [], _, [], _, rfl, u1.size, Nat.le_refl _, OwnG.nil, OwnG.nil, u1⟩
  have hh := hidB_true hB
  obtain ⟨hp, a, c, rfl, rfl, han, hcm, hone⟩ := hh
  have HP := Lib.hid hp; clear hp
  have hqb := q_bound HP.out han hcm
  have hF1 := prot_low HP.out han hcm hone (g := qLo x p a c) (by omega)
  have hF2 := prot_high HP.out han hcm hone (g := qHi x p a c) (by omega)
  rw [decide_eq_true (Int.le_refl _)] at hF1 hF2
  have hO1 := prot_ok HP.out han hcm (a := 0) (b := qLo x p a c) (by omega)
  have hO2 := prot_ok HP.out han hcm (a := qHi x p a c) (b := 100000) (by omega)
  have eA : wtA x p (a : Int) (c : Int) = firstV (withT (atkT x p) a c 0 (qLo x p a c)) := by simp [wtA, hB]
  have eC : wtC x p (a : Int) (c : Int) = firstV (withT (atkT x p) a c (qHi x p a c) 100000) := by simp [wtC, hB]
  rw [eA, eC]
  clear eA eC
  have HB := Lib.hid hB; clear hB hone
  obtain ⟨VL, hVL⟩ : ∃ V, qLo x p a c = V := ⟨_, rfl⟩
  obtain ⟨VH, hVH⟩ : ∃ V, qHi x p a c = V := ⟨_, rfl⟩
  rw [hVL] at hF1 hO1 hqb ⊢
  rw [hVH] at hF2 hO2 hqb ⊢
  have HVL : Hid (lowV (atkT x p) a c = VL) := Lib.hid hVL
  have HVH : Hid (highV (atkT x p) a c = VH) := Lib.hid hVH
  clear hVL hVH
  have HF1 := Lib.hid hF1; clear hF1
  have HF2 := Lib.hid hF2; clear hF2
  have HO1 := Lib.hid hO1; clear hO1
  have HO2 := Lib.hid hO2; clear hO2
  obtain ⟨m, hm⟩ : ∃ m, (rowAt x 0).length = m := ⟨_, rfl⟩
  rw [hm] at hcm
  have HM := Lib.hid hm; clear hm
  go_enter Try.func7, Try.ntmps7
  go_wp2_with fail
  refine (vCell_b true _ x _ p a c _ HB.out H1.out H2.out).mono ?_
  rintro e w1 ⟨rfl, u1⟩
  go_wp2_with fail
  refine (qNetwork_c _ x _ p _ (H1.out.ext u1) (H2.out.ext u1) HP.out).mono ?_
  rintro e w2 ⟨v2, rfl, ot, u2⟩
  have hr := ot.read
  clear ot
  obtain ⟨a0, c0, a1, c1, a2, c2, a3, c3, rfl⟩ := atk_form HP.out hr
  rw [HM.out] at hr ⊢
  have HR := Lib.hid hr; clear hr
  have x2 := u1.trans u2
  have b2 := Box.new w2 38 #[.slice a0 x.length c0, .slice a1 m c1, .slice a2 x.length c2, .slice a3 x.length c3] rfl
  have ua := (Ext.refl w2).alloc (.cells #[.slice a0 x.length c0, .slice a1 m c1, .slice a2 x.length c2, .slice a3 x.length c3] 38)
  go_wp2_with fail
  refine (tRange_c true (atkT x p) a0 a1 a2 a3 c0 c1 c2 c3 x.length m a c _ (atk_feas HP.out) (atk_rl x p) (by rw [atk_cl, HM.out]) (HR.out.ext ua) (atk_ok HP.out) han hcm).mono ?_
  simp only [if_true]
  rw [HVL.out, HVH.out]
  rintro e w3 ⟨rfl, u3⟩
  have x3 := ua.trans u3
  have b3 := b2.ext u3
  have k0 := b3.cell 0 (by simp)
  have k1 := b3.cell 1 (by simp)
  have k2 := b3.cell 2 (by simp)
  have k3 := b3.cell 3 (by simp)
  go_wp2_with fail
  refine (tWith_c (atkT x p) a0 a1 a2 a3 c0 c1 c2 c3 x.length m a c 0 VL _ (atk_rl x p) (by rw [atk_cl, HM.out]) (HR.out.ext x3) (atk_ok HP.out) han hcm).mono ?_
  rintro e w4 ⟨a4, a5, c4, c5, mid, r4, r5, rfl, g4, g5, q1, q2, q3, q4, u4⟩
  have x4 := x3.trans u4
  have b4 := b3.ext u4
  have HT4 := Lib.hid (withT_read (atk_rl x p) ((HR.out.ext x4).f0) ((HR.out.ext x4).f1) (atk_ok HP.out) g4 g5 q1 q2 q3 q4)
  clear g4 g5 k0 k1 k2 k3
  go_wp2_with fail
  refine (tFirst_c _ _ _ HT4.out HO1.out).mono ?_
  rw [HF1.out]
  rintro e w5 ⟨vA, rA, rfl, oA, u5⟩
  have x5 := x4.trans u5
  have b5 := b4.ext u5
  have k0 := b5.cell 0 (by simp)
  have k1 := b5.cell 1 (by simp)
  have k2 := b5.cell 2 (by simp)
  have k3 := b5.cell 3 (by simp)
  have OA := Lib.hid oA; clear oA
  go_wp2_with fail
  refine (tWith_c (atkT x p) a0 a1 a2 a3 c0 c1 c2 c3 x.length m a c VH 100000 _ (atk_rl x p) (by rw [atk_cl, HM.out]) (HR.out.ext x5) (atk_ok HP.out) han hcm).mono ?_
  rintro e w6 ⟨a6, a7, c6, c7, mid2, r6, r7, rfl, g6, g7, q5, q6, q7, q8, u6⟩
  have x6 := x5.trans u6
  have HT6 := Lib.hid (withT_read (atk_rl x p) ((HR.out.ext x6).f0) ((HR.out.ext x6).f1) (atk_ok HP.out) g6 g7 q5 q6 q7 q8)
  clear g6 g7 k0 k1 k2 k3
  go_wp2_with fail
  refine (tFirst_c _ _ _ HT6.out HO2.out).mono ?_
  rw [HF2.out]
  rintro e w7 ⟨vC, rC, rfl, oC, u7⟩
  have OC := Lib.hid oC; clear oC
  have s1 := x2.size
  have s2 := x4.size
  have s5 := u6.size
  have s6 := u7.size
  go_wp2
  go_ret3
  exact ⟨vA, rA, vC, rC, w5.heap.size, rfl, Nat.le_trans s1 x5.size, Nat.le_trans s5 s6, ((OA.out.ext u6).ext u7).mono (Nat.le_trans s1 s2) (Nat.le_refl _), OC.out.mono s5 (Nat.le_refl _), ((x2.trans x6).trans u7)⟩
set_option maxRecDepth 100000 in
set_option maxHeartbeats 3200000 in
theorem implWit_c (v1 : Value) (x : List (List Int)) (v2 : Value) (p : List (List Int)) (i j : Int) (w : World) (h1 : Grid w v1 x) (h2 : Grid w v2 p) :
    Calls Try.prog 9 #[v1, v2, .int .i64 i, .int .i64 j] w (RetGrids (fun v1 v2 => .tuple #[v1, v2, .bool (hidB x p i j)]) w (wtA x p i j) (wtC x p i j)) := by
  have H1 := Lib.hid h1
  have H2 := Lib.hid h2
  obtain ⟨ax, cx, rfl, x1, x2, x3⟩ := h1
  clear x3
  obtain ⟨ap, cp, rfl, p1, p2, p3⟩ := h2
  clear p3
  cases hp : pubB x p
  · have hB : hidB x p i j = false := by simp only [hidB, hp, Bool.false_and]
    simp only [wtA, wtC, hB, Bool.false_eq_true, if_false]
    clear hB
    have HP := Lib.hid hp; clear hp
    go_enter Try.func9, Try.ntmps9
    go_wp2_with fail
    refine (areSuppressed_b false _ _ x p _ HP.out H1.out H2.out).mono ?_
    rintro e w ⟨rfl, rfl⟩
    go_wp2
    go_ret3
    exact ⟨_, [], _, [], _, rfl, Nat.le_refl _, Nat.le_refl _, OwnG.nil, OwnG.nil, Ext.refl _⟩
  have HP := Lib.hid hp; clear hp
  cases hB : hidB x p i j
  · simp only [wtA, wtC, hB, Bool.false_eq_true, if_false]
    have HB := Lib.hid hB; clear hB
    go_enter Try.func9, Try.ntmps9
    go_wp2_with fail
    refine (areSuppressed_b true _ _ x p _ HP.out H1.out H2.out).mono ?_
    rintro e w ⟨rfl, rfl⟩
    go_wp2_with fail
    refine (isHidden_b false x _ p i j _ HP.out HB.out H2.out).mono ?_
    rintro e w1 ⟨rfl, u1⟩
    go_wp2
    go_ret3
    exact ⟨_, [], _, [], _, rfl, u1.size, Nat.le_refl _, OwnG.nil, OwnG.nil, u1⟩
  have hh := hidB_true hB
  obtain ⟨_, a, c, rfl, rfl, han, hcm, hone⟩ := hh
  have hqb := q_bound HP.out han hcm
  have hF1 := prot_low HP.out han hcm hone (g := qLo x p a c) (by omega)
  have hF2 := prot_high HP.out han hcm hone (g := qHi x p a c) (by omega)
  rw [decide_eq_true (Int.le_refl _)] at hF1 hF2
  have hO1 := prot_ok HP.out han hcm (a := 0) (b := qLo x p a c) (by omega)
  have hO2 := prot_ok HP.out han hcm (a := qHi x p a c) (b := 100000) (by omega)
  have eA : wtA x p (a : Int) (c : Int) = firstV (withT (atkT x p) a c 0 (qLo x p a c)) := by simp [wtA, hB]
  have eC : wtC x p (a : Int) (c : Int) = firstV (withT (atkT x p) a c (qHi x p a c) 100000) := by simp [wtC, hB]
  rw [eA, eC]
  clear eA eC
  have hE0 : elOf (atkT x p).lo a c = 0 := by rw [atk_lo HP.out han hcm, if_pos hone]
  have HB := Lib.hid hB; clear hB hone
  obtain ⟨VL, hVL⟩ : ∃ V, qLo x p a c = V := ⟨_, rfl⟩
  obtain ⟨VH, hVH⟩ : ∃ V, qHi x p a c = V := ⟨_, rfl⟩
  rw [hVL] at hF1 hO1 hqb ⊢
  rw [hVH] at hF2 hO2 hqb ⊢
  have HVL : Hid (lowV (atkT x p) a c = VL) := Lib.hid hVL
  have HVH : Hid (highV (atkT x p) a c = VH) := Lib.hid hVH
  clear hVL hVH
  have HF1 := Lib.hid hF1; clear hF1
  have HF2 := Lib.hid hF2; clear hF2
  have HO1 := Lib.hid hO1; clear hO1
  have HO2 := Lib.hid hO2; clear hO2
  have rcx := pub_rc HP.out
  have ha1 := atk_ok HP.out
  obtain ⟨m, hm⟩ : ∃ m, (rowAt x 0).length = m := ⟨_, rfl⟩
  rw [hm] at hcm rcx
  have HM := Lib.hid hm
  have HR2 : Hid (Rc x.length m (atkT x p).lo) := Lib.hid (by have := ha1.rcLo; rwa [atk_rl, atk_cl, hm] at this)
  have HR3 : Hid (Rc x.length m (atkT x p).hi) := Lib.hid (by have := ha1.rcHi; rwa [atk_rl, atk_cl, hm] at this)
  have HRX := Lib.hid rcx
  clear hm rcx ha1
  have HW1 : Hid ((⟨(atkT x p).rows, (atkT x p).cols, (atkT x p).lo, setEl (atkT x p).hi a c VL⟩ : Tr) = withT (atkT x p) a c 0 VL) := Lib.hid (by unfold withT; rw [setEl_same HR2.out han hcm hE0])
  have HW2 : Hid ((⟨(withT (atkT x p) a c 0 VL).rows, (withT (atkT x p) a c 0 VL).cols, setEl (withT (atkT x p) a c 0 VL).lo a c VH, setEl (withT (atkT x p) a c 0 VL).hi a c 100000⟩ : Tr) = withT (atkT x p) a c VH 100000) := Lib.hid (by
    show (⟨(atkT x p).rows, (atkT x p).cols, setEl (setEl (atkT x p).lo a c 0) a c VH, setEl (setEl (atkT x p).hi a c VL) a c 100000⟩ : Tr) = _
    rw [setEl_setEl (by rw [HR2.out.len]; exact han), setEl_setEl (by rw [HR3.out.len]; exact han)]; rfl)
  have HR4 : Hid (Rc x.length m (withT (atkT x p) a c 0 VL).lo) := Lib.hid (HR2.out.setEl a c 0)
  have HR5 : Hid (Rc x.length m (withT (atkT x p) a c 0 VL).hi) := Lib.hid (HR3.out.setEl a c VL)
  clear hE0
  have i0 : (0 : Int) ≤ (a : Int) := by omega
  have i1 : (a : Int) < (x.length : Int) := by omega
  have i2 : (0 : Int) ≤ (c : Int) := by omega
  have i3 : (c : Int) < (m : Int) := by omega
  go_enter Try.func9, Try.ntmps9
  go_wp2_with fail
  refine (areSuppressed_b true _ _ x p _ HP.out H1.out H2.out).mono ?_
  rintro e w ⟨rfl, rfl⟩
  go_wp2_with fail
  refine (isHidden_b true x _ p a c _ HP.out HB.out H2.out).mono ?_
  rintro e w1 ⟨rfl, u1⟩
  go_wp2_with fail
  refine (attackNetwork_c _ x _ p _ (H1.out.ext u1) (H2.out.ext u1) HP.out).mono ?_
  rintro e w2 ⟨v2, rfl, ot, u2⟩
  have hr := ot.read
  obtain ⟨a0, c0, a1, c1, a2, c2, a3, c3, rfl⟩ := atk_form HP.out hr
  rw [HM.out] at hr ot ⊢
  have HR := Lib.hid hr; clear hr
  have HO := Lib.hid ot; clear ot
  have x2' := u1.trans u2
  have b2 := Box.new w2 38 #[.slice a0 x.length c0, .slice a1 m c1, .slice a2 x.length c2, .slice a3 x.length c3] rfl
  have ua := (Ext.refl w2).alloc (.cells #[.slice a0 x.length c0, .slice a1 m c1, .slice a2 x.length c2, .slice a3 x.length c3] 38)
  go_wp2_with fail
  refine (rangeOf_c (atkT x p) x a0 a1 a2 a3 ax c0 c1 c2 c3 cx x.length m a c _ (atk_rl x p) (by rw [atk_cl, HM.out]) (HR.out.ext ua) (H1.out.ext (x2'.trans ua)) (atk_ok HP.out) HRX.out (atk_flow HP.out) han hcm).mono ?_
  rw [HVL.out, HVH.out]
  rintro e w3 ⟨rfl, u3⟩
  have x3 := ua.trans u3
  have b3 := b2.ext u3
  have k3 := b3.cell 3 (by simp)
  obtain ⟨p2, o2, q2, r2, s2, p3, o3, q3, r3, s3, rfl, rfl, t1, t2, t3, t4, t5, t6, t7, t8, t9, t10, t11⟩ := (HO.out.ext x3).two HR2.out HR3.out han hcm
  have T3 := Lib.hid (t10 VL)
  rw [HW1.out] at T3
  clear t1 t3 t5 t7 t9 t10 t11
  have hs2 := u2.size
  have hs1 := u1.size
  obtain ⟨ws, hws⟩ : ∃ ws, w3.setCell ⟨q3, r3 + c, none⟩ (.int .i64 VL) = ws := ⟨_, rfl⟩
  have US : Upd (fun b => b = q3) w3 ws := by rw [← hws]; exact (Upd.refl w3).setCell (a := ⟨q3, r3 + c, none⟩) _ (fun _ => rfl)
  have b4 := b3.upd US (by omega)
  have xs4 : Ext w ws := (x2'.trans x3).of_upd US (fun b hb => by omega)
  rw [hws] at T3
  have hzs := US.size
  have k4 := b4.cell 0 (by simp)
  have k5 := b4.cell 1 (by simp)
  have k6 := b4.cell 2 (by simp)
  have k7 := b4.cell 3 (by simp)
  go_wp2_with fail
  clear hws US
  refine (firstFlow_c _ _ _ T3.out.read HO1.out).mono ?_
  rintro e w4 ⟨vA, rA, rfl, oA, u4, hAA⟩
  have OA := Lib.hid oA; clear oA
  rcases hAA with ⟨hf, _⟩ | ⟨_, bA, oA, nA, cA, rfl⟩
  · rw [HF1.out] at hf; cases hf
  have b5 := b4.ext u4
  have kk2 := b5.cell 2 (by simp)
  have kk3 := b5.cell 3 (by simp)
  clear k3 k4 k5 k6 k7 t2 t4 t6
  obtain ⟨p2', o2', q2', r2', s2', p3', o3', q3', r3', s3', e2, e3, t1, t2, t3, t4, t5, t6, t7, t8, t9, t10, t11⟩ := (T3.out.ext u4).two HR4.out HR5.out han hcm
  simp only [Option.some.injEq, Addr.mk.injEq, and_true] at e2 e3
  obtain ⟨rfl, rfl⟩ := e2
  obtain ⟨rfl, rfl⟩ := e3
  have T4 := Lib.hid ((t11 100000 VH).ext (Ext.refl _).drew)
  rw [HW2.out] at T4
  clear t10 t11
  go_upto_region 7 with fail
  go_region
  obtain ⟨wt, hwt⟩ : ∃ wt, ((w4.setCell ⟨q3', r3' + c, none⟩ (.int .i64 100000)).setCell ⟨q2', r2' + c, none⟩ (.int .i64 VH)).drew = wt := ⟨_, rfl⟩
  have UT : Upd (fun b => b = q3' ∨ b = q2') w4 wt := by
    rw [← hwt]
    exact (((Upd.refl w4).setCell (a := ⟨q3', r3' + c, none⟩) _ (fun _ => .inl rfl)).setCell (a := ⟨q2', r2' + c, none⟩) _ (fun _ => .inr rfl)).drew
  rw [hwt] at T4
  have b7 := b5.upd UT (by omega)
  have xs7 : Ext w wt := (xs4.trans u4).of_upd UT (fun b hb => by omega)
  have k4 := b7.cell 0 (by simp)
  have k5 := b7.cell 1 (by simp)
  have k6 := b7.cell 2 (by simp)
  have k7 := b7.cell 3 (by simp)
  have s3' := u3.size
  have hzt := UT.size
  have hz4 := u4.size
  have OA2 := Lib.hid (OA.out.away UT (fun b hb => .inl (by simp at s3'; omega)))
  rw [hwt]
  clear hwt UT
  go_wp2_with fail
  refine (firstFlow_c _ _ _ T4.out.read HO2.out).mono ?_
  rintro e w5 ⟨vC, rC, rfl, oC, u5, _⟩
  have OC := Lib.hid oC; clear oC
  have s5 := u5.size
  go_wp2
  go_ret3
  exact ⟨_, rA, vC, rC, wt.heap.size, rfl, by simp at s3'; omega, s5, (OA2.out.ext u5).mono (by simp at s3'; omega) hzt, OC.out, xs7.trans u5⟩
end Go.Proofs.Ytodnkahnbidgaaa
