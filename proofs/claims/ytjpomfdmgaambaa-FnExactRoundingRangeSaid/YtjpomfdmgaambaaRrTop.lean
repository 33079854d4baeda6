/- RoundingRange, all of it above the network. -/
import Derived.Test.YtjpomfdmgaambaaRnP
import Derived.Test.YtjpomfdmgaambaaFirstP
import Derived.Test.YtjpomfdmgaambaaMapG
import Derived.Test.YtjpomfdmgaambaaSz
import Derived.Test.YtjpomfdmgaambaaRnOd
import Derived.Test.YtjpomfdmgaambaaRnI
import Derived.Test.YtjpomfdmgaambaaMat
import Derived.Test.YtjpomfdmgaambaaOb
import Derived.Test.YtjpomfdmgaambaaSrange
import Derived.Test.YtjpomfdmgaambaaRangeW
import Derived.Deep.RegionHeld3
namespace Go.Proofs.Ytjpomfdmgaambaa
open Go.RowKit
open Fm

theorem up_mul {base v : Int} (hb : 2 ≤ base) : v ≤ base * upV base v ∧ base * upV base v ≤ v + base - 1 := by
  unfold upV
  have h1 := Int.mul_ediv_self_le (x := v + base - 1) (k := base) (by omega)
  have h2 := Int.lt_mul_ediv_self_add (x := v + base - 1) (k := base) (by omega)
  omega
theorem dn_mul {base v : Int} (hb : 2 ≤ base) : base * dnV base v ≤ v ∧ v < base * dnV base v + base := by
  unfold dnV
  have h1 := Int.mul_ediv_self_le (x := v) (k := base) (by omega)
  have h2 := Int.lt_mul_ediv_self_add (x := v) (k := base) (by omega)
  omega
theorem dn_le_up {base v : Int} (hb : 2 ≤ base) : dnV base v ≤ upV base v := by
  have h1 := dn_mul (v := v) hb
  have h2 := up_mul (v := v) hb
  refine Int.not_lt.1 fun h => ?_
  have h3 := Int.mul_le_mul_of_nonneg_left (a := upV base v + 1) (b := dnV base v) (c := base) (by omega) (by omega)
  rw [Int.mul_add, Int.mul_one] at h3
  omega
theorem up_sum {base : Int} (hb : 2 ≤ base) : ∀ xs : List Int, xs.sum ≤ base * (xs.map (upV base)).sum ∧ base * (xs.map (upV base)).sum ≤ xs.sum + xs.length * (base - 1)
  | [] => by simp
  | y :: xs => by
    have h1 := up_mul (v := y) hb
    have h2 := up_sum hb xs
    have e : (((y :: xs).length : Nat) : Int) * (base - 1) = xs.length * (base - 1) + (base - 1) := by rw [List.length_cons, Int.natCast_add, Int.natCast_one, Int.add_mul, Int.one_mul]
    rw [List.map_cons, List.sum_cons, List.sum_cons, Int.mul_add, e]
    omega
/-- the rounded parts exceed the whole, rounded down, by at most one each and one -/
theorem up_parts {base : Int} (hb : 2 ≤ base) (xs : List Int) : 0 ≤ (xs.map (upV base)).sum - dnV base xs.sum ∧ (xs.map (upV base)).sum - dnV base xs.sum ≤ xs.length + 1 := by
  have h1 := up_sum hb xs
  have h2 := dn_mul (v := xs.sum) hb
  constructor
  · refine Int.not_lt.1 fun h => ?_
    have h3 := Int.mul_le_mul_of_nonneg_left (a := (xs.map (upV base)).sum + 1) (b := dnV base xs.sum) (c := base) (by omega) (by omega)
    rw [Int.mul_add, Int.mul_one] at h3
    omega
  · refine Int.not_lt.1 fun h => ?_
    have h3 := Int.mul_le_mul_of_nonneg_left (a := dnV base xs.sum + (xs.length + 2)) (b := (xs.map (upV base)).sum) (c := base) (by omega) (by omega)
    have e1 : base * (dnV base xs.sum + ((xs.length : Int) + 2)) = base * dnV base xs.sum + (base * xs.length + base * 2) := by rw [Int.mul_add, Int.mul_add]
    have e2 : (xs.length : Int) * (base - 1) = base * xs.length - xs.length := by rw [Int.mul_sub, Int.mul_one, Int.mul_comm]
    rw [e1] at h3
    rw [e2] at h1
    omega
theorem sums_alike {x : List (List Int)} {m : Nat} (hM : MatOk x m) : (colS x m).sum = (rowS x).sum := by
  have hrc : Rc x.length m x := ⟨rfl, fun u hu => hM.row u hu⟩
  rw [sum_S, sum_S, colS_length, rowS_length]
  rw [S_congr (f := ix (colS x m)) (g := fun j => S x.length (fun i => elOf x i j)) (fun j hj => by rw [ix_colS hj, hrc.colsum]),
    S_congr (f := ix (rowS x)) (g := fun i => S m (fun j => elOf x i j)) (fun i hi => by rw [ix_rowS hi, hrc.rowsum hi])]
  exact (S_swap x.length m (elOf x)).symm
theorem sumsB_of {xs : List Int} (h1 : 1 ≤ xs.length) (h8 : xs.length ≤ 8) (h : ∀ k, k < xs.length → 0 ≤ ix xs k ∧ ix xs k ≤ 100000) : sumsB xs = true := by
  have ha : allIn 0 100000 xs = true := by
    unfold allIn
    exact all_true_of_ix fun j hj => by have := h j hj; simp; omega
  unfold sumsB
  rw [ha]; simp; omega
theorem shapeB_of {n m : Nat} {X : List (List Int)} (h1 : X.length = n) (h : ∀ k, k < n → (rowAt X k).length = m) : shapeB (n : Int) (m : Int) X = true := by
  unfold shapeB
  simp only [Bool.and_eq_true, decide_eq_true_eq]
  refine ⟨by omega, ?_⟩
  rw [rows_all]
  intro k hk
  have := h k (by omega)
  simp; omega

variable {x : List (List Int)} {n m : Nat} {base : Int}
theorem NetOf.ok {R C : List Int} {L H : List (List Int)} (N : NetOf x n m base R C L H) (hM : MatOk x m) (hE : ∀ k l, k < n → l < m → 0 ≤ ix (rowAt x k) l ∧ ix (rowAt x k) l ≤ 10000) (hn : x.length = n) (h8 : 1 ≤ n ∧ n ≤ 7 ∧ 1 ≤ m ∧ m ≤ 7) (hb2 : 2 ≤ base) (hb3 : base ≤ 100) : TrOk ⟨R, C, L, H⟩ := by
  have hA := all_bd hM hE hn
  have hU := up_parts hb2 (rowS x)
  have hW := up_parts hb2 (colS x m)
  rw [sums_alike hM, colS_length] at hW
  rw [rowS_length, hn] at hU
  refine ⟨sumsB_of ?_ ?_ ?_, sumsB_of ?_ ?_ ?_, ?_, ?_, ?_⟩
  · show 1 ≤ R.length; rw [N.r1]; omega
  · show R.length ≤ 8; rw [N.r1]; omega
  · intro k hk
    have hk : k < n + 1 := by rw [← N.r1]; exact hk
    by_cases e : k < n
    · have h1 := rowS_bd hM hE hn e
      have h2 := upV_bd h1.1 h1.2 hb2 hb3
      show 0 ≤ ix R k ∧ ix R k ≤ 100000
      rw [N.rw k e]; omega
    · have e : k = n := by omega
      subst e
      show 0 ≤ ix R k ∧ ix R k ≤ 100000
      rw [N.rwN]
      unfold upC
      omega
  · show 1 ≤ C.length; rw [N.c1]; omega
  · show C.length ≤ 8; rw [N.c1]; omega
  · intro k hk
    have hk : k < m + 1 := by rw [← N.c1]; exact hk
    by_cases e : k < m
    · have h1 := colS_bd hM hE hn e
      have h2 := upV_bd h1.1 h1.2 hb2 hb3
      show 0 ≤ ix C k ∧ ix C k ≤ 100000
      rw [N.cl k e]; omega
    · have e : k = m := by omega
      subst e
      show 0 ≤ ix C k ∧ ix C k ≤ 100000
      rw [N.clM]
      unfold upR
      omega
  · show shapeB (R.length : Int) (C.length : Int) L = true
    rw [N.r1, N.c1]; exact shapeB_of N.l1 N.ll
  · show shapeB (R.length : Int) (C.length : Int) H = true
    rw [N.r1, N.c1]; exact shapeB_of N.h1 N.hl
  · intro i hi j hj
    have hi : i < n + 1 := by rw [← N.l1]; exact hi
    have hj : j < m + 1 := by rw [← N.ll i hi]; exact hj
    show 0 ≤ ix (rowAt L i) j ∧ ix (rowAt L i) j ≤ ix (rowAt H i) j ∧ ix (rowAt H i) j ≤ 100000
    by_cases ei : i < n
    · by_cases ej : j < m
      · rw [N.lo i j ei ej, N.hi i j ei ej]
        have h1 := hE i j ei ej
        have h2 := upV_bd h1.1 h1.2 hb2 hb3
        have h3 := dnV_bd h1.1 h1.2 hb2
        have h4 := dn_le_up (v := ix (rowAt x i) j) hb2
        omega
      · have ej : j = m := by omega
        subst ej
        rw [N.loM i ei, N.hiM i ei]
        have h1 := rowS_bd hM hE hn ei
        have h2 := upV_bd h1.1 h1.2 hb2 hb3
        have h3 := dnV_bd h1.1 h1.2 hb2
        have h4 := dn_le_up (v := ix (rowS x) i) hb2
        omega
    · have ei : i = n := by omega
      subst ei
      rw [N.loN j hj]
      by_cases ej : j < m
      · rw [N.hiN j ej]
        have h1 := colS_bd hM hE hn ej
        have h2 := upV_bd h1.1 h1.2 hb2 hb3
        have h3 := dnV_bd h1.1 h1.2 hb2
        have h4 := dn_le_up (v := ix (colS x m) j) hb2
        omega
      · have ej : j = m := by omega
        subst ej
        rw [N.hiNM]
        have h1 := up_mul (v := (rowS x).sum) hb2
        have h2 := dn_mul (v := (rowS x).sum) hb2
        have h4 := dn_le_up (v := (rowS x).sum) hb2
        have h5 : base * (upV base (rowS x).sum - dnV base (rowS x).sum) < base * 2 := by rw [Int.mul_sub]; omega
        have h6 := Int.lt_of_mul_lt_mul_left h5 (by omega)
        omega
theorem rnT_ok (hM : MatOk x m) (hE : ∀ k l, k < n → l < m → 0 ≤ ix (rowAt x k) l ∧ ix (rowAt x k) l ≤ 10000) (hn : x.length = n) (h8 : 1 ≤ n ∧ n ≤ 7 ∧ 1 ≤ m ∧ m ≤ 7) (hb2 : 2 ≤ base) (hb3 : base ≤ 100) : TrOk (rnT x n m base) := by
  rw [rnT_eq]
  exact (netOf (x := x) (n := n) (m := m) (base := base)).ok hM hE hn h8 hb2 hb3

/-- where there is a flow there is a first one -/
theorem firstV_first {T : Tr} (h : TrOk T) (hf : feasB T = true) : FirstFrom T 0 (firstV T) := by
  have hc : 0 < T.cols.length := by have := h.dims; omega
  have key : ∀ q, q ≤ T.rows.length * T.cols.length → ∃ T', Fixed T T' q := by
    intro q
    induction q with
    | zero => intro _; exact ⟨T, Fixed.start h (feasB_true.1 hf)⟩
    | succ q ih =>
      intro hq
      obtain ⟨T', hT⟩ := ih (by omega)
      have e : q / T.cols.length * T.cols.length + q % T.cols.length = q := by rw [Nat.mul_comm]; exact Nat.div_add_mod q _
      have h1 : q / T.cols.length < T.rows.length := (Nat.div_lt_iff_lt_mul hc).2 (by omega)
      have h2 : q % T.cols.length < T.cols.length := Nat.mod_lt _ hc
      rw [← e] at hT ⊢
      exact ⟨_, hT.step h1 h2⟩
  obtain ⟨T', hT⟩ := key _ (Nat.le_refl _)
  have := hT.done (Nat.le_refl _)
  rw [this.eq]
  exact this
/-- the cells of the rounding of a flow: the inner ones, times the base -/
def frEl (F : List (List Int)) (base : Int) (i j : Nat) (_ : Int) : Int := ix (rowAt F i) j * base
def frC (F x : List (List Int)) (base : Int) : List (List Int) := mapG (frEl F base) x
/-- the first flow's shape and bounds -/
structure FlowFit (x : List (List Int)) (n m : Nat) (base : Int) (F : List (List Int)) : Prop where
  len : F.length = n + 1
  row : ∀ i, i < n + 1 → (rowAt F i).length = m + 1
  el : ∀ i j, i < n → j < m → 0 ≤ ix (rowAt F i) j ∧ ix (rowAt F i) j ≤ 10100
  mul : ∀ i j, i < n → j < m → 0 ≤ ix (rowAt F i) j * base ∧ ix (rowAt F i) j * base ≤ 10100
theorem flow_fit (hM : MatOk x m) (hE : ∀ k l, k < n → l < m → 0 ≤ ix (rowAt x k) l ∧ ix (rowAt x k) l ≤ 10000) (hn : x.length = n) (h8 : 1 ≤ n ∧ n ≤ 7 ∧ 1 ≤ m ∧ m ≤ 7) (hb2 : 2 ≤ base) (hb3 : base ≤ 100) (hf : feasB (rnT x n m base) = true) : FlowFit x n m base (firstV (rnT x n m base)) := by
  have ok := rnT_ok hM hE hn h8 hb2 hb3
  have N := netOf (x := x) (n := n) (m := m) (base := base)
  have hF := firstV_first ok hf
  have hl := hF.rc.len
  have hr := hF.rc.row
  rw [N.r1] at hl hr
  rw [N.c1] at hr
  have bd : ∀ i j, i < n → j < m → dnV base (ix (rowAt x i) j) ≤ ix (rowAt (firstV (rnT x n m base)) i) j ∧ ix (rowAt (firstV (rnT x n m base)) i) j ≤ upV base (ix (rowAt x i) j) := fun i j hi hj => by
    have h1 := hF.flow.lo i j (show i < (rnT x n m base).rows.length by rw [N.r1]; omega) (show j < (rnT x n m base).cols.length by rw [N.c1]; omega)
    have h2 := hF.flow.hi i j (show i < (rnT x n m base).rows.length by rw [N.r1]; omega) (show j < (rnT x n m base).cols.length by rw [N.c1]; omega)
    have e1 : (NetT (rnT x n m base)).Lo i j = dnV base (ix (rowAt x i) j) := N.lo i j hi hj
    have e2 : (NetT (rnT x n m base)).Hi i j = upV base (ix (rowAt x i) j) := N.hi i j hi hj
    rw [e1] at h1
    rw [e2] at h2
    exact ⟨h1, h2⟩
  refine ⟨hl, hr, fun i j hi hj => ?_, fun i j hi hj => ?_⟩
  · have h1 := hE i j hi hj
    have h2 := upV_bd h1.1 h1.2 hb2 hb3
    have h3 := dnV_bd h1.1 h1.2 hb2
    have h4 := bd i j hi hj
    omega
  · have h1 := hE i j hi hj
    have h3 := dnV_bd h1.1 h1.2 hb2
    have h4 := bd i j hi hj
    have h5 := up_mul (v := ix (rowAt x i) j) hb2
    have h6 := Int.mul_le_mul_of_nonneg_right h4.2 (show 0 ≤ base by omega)
    have h7 := Int.mul_nonneg (show 0 ≤ ix (rowAt (firstV (rnT x n m base)) i) j by omega) (show 0 ≤ base by omega)
    rw [Int.mul_comm (upV base _) base] at h6
    omega
theorem frC_matOk {F : List (List Int)} (hF : FlowFit x n m base F) (hM : MatOk x m) (hn : x.length = n) (h8 : 1 ≤ n ∧ n ≤ 7 ∧ 1 ≤ m ∧ m ≤ 7) : MatOk (frC F x base) m := by
  unfold frC
  refine ⟨by rw [mapG_length]; omega, by rw [mapG_length]; omega, by omega, by omega, fun k hk => ?_, fun k l hk hl => ?_⟩
  · rw [mapG_length] at hk
    rw [rowAt_mapG hk, rowF_length, hM.row k hk]
  · rw [mapG_length] at hk
    rw [rowAt_mapG hk, ix_rowF (by rw [hM.row k hk]; exact hl)]
    have := hF.mul k l (by omega) hl
    unfold frEl
    omega
/-- the rounding -/
noncomputable def frB (x : List (List Int)) (base : Int) : Bool := feasB (rnT x x.length (rowAt x 0).length base)
noncomputable def frD (x : List (List Int)) (base : Int) : Rd := margD (frC (firstV (rnT x x.length (rowAt x 0).length base)) x base) (rowAt x 0).length
end Go.Proofs.Ytjpomfdmgaambaa
namespace Go.Proofs.Ytjpomfdmgaambaa
open Go.RowKit
theorem rgOf {lo hi : Nat} {w w' : World} (_ : Upd (fun b => lo ≤ b ∧ b < hi) w w') : ∀ b, (lo ≤ b ∧ b < hi) → lo ≤ b ∧ b < hi := fun _ hb => hb
theorem sum_len_le {b : Nat} {xss : List (List Int)} (h : ∀ r ∈ xss, r.length ≤ b) : (xss.map List.length).sum ≤ b * xss.length := by
  induction xss with
  | nil => simp
  | cons r rs ih =>
    have h1 := h r (by simp)
    have h2 := ih (fun q hq => h q (by simp [hq]))
    simp only [List.map_cons, List.sum_cons, List.length_cons]
    rw [Nat.mul_add]; omega
theorem Small.of_rows8 {xss : List (List Int)} (h1 : xss.length ≤ 8) (h2 : ∀ k, k < xss.length → (rowAt xss k).length ≤ 8) : Small xss := by
  have h3 := sum_len_le (b := 8) (xss := xss) (fun r hr => by
    obtain ⟨i, hi, rfl⟩ := List.getElem_of_mem hr
    have := h2 i hi; rwa [rowAt_eq hi] at this)
  exact Small.of_bound (by omega)
end Go.Proofs.Ytjpomfdmgaambaa
namespace Go.Proofs.Ytjpomfdmgaambaa
open Go.RowKit
def rnB (x : List (List Int)) (base : Int) : Bool := gridB 7 10000 x && (decide (2 ≤ base) && decide (base ≤ 100))
def rnNV (x : List (List Int)) (base : Int) : Tr := if rnB x base = true then rnT x x.length (rowAt x 0).length base else ⟨[], [], [], []⟩
theorem rn_matOk {x : List (List Int)} (h : gridB 7 10000 x = true) : MatOk x (rowAt x 0).length := by
  have g := gridB_true.1 h
  refine ⟨g.1, by omega, g.2.2.1, by omega, fun k hk => (g.2.2.2.2 k hk).1, fun k l hk hl => ?_⟩
  have := gridB_elem h hk (j := l) (by rw [(g.2.2.2.2 k hk).1]; exact hl)
  omega
theorem rn_el {x : List (List Int)} (h : gridB 7 10000 x = true) : ∀ k l, k < x.length → l < (rowAt x 0).length → 0 ≤ ix (rowAt x k) l ∧ ix (rowAt x k) l ≤ 10000 := fun k l hk hl =>
  gridB_elem h hk (j := l) (by have g := gridB_true.1 h; rw [(g.2.2.2.2 k hk).1]; exact hl)
theorem rn_dim {x : List (List Int)} (h : gridB 7 10000 x = true) : 1 ≤ x.length ∧ x.length ≤ 7 ∧ 1 ≤ (rowAt x 0).length ∧ (rowAt x 0).length ≤ 7 := by
  have g := gridB_true.1 h
  exact ⟨g.1, g.2.1, g.2.2.1, g.2.2.2.1⟩
theorem rn_nIB {v : Value} {b : Nat} (h : IB v [] b) : False := h.1 rfl
theorem rn_nGB {v : Value} {r : List Value} {b : Nat} (h : GB v r [] b) : False := by
  rcases h with h | ⟨k, hk, _⟩
  · exact h.1 rfl
  · simp at hk
theorem rnNV_small (x : List (List Int)) (base : Int) : TrSmall (rnNV x base) := by
  unfold rnNV
  split
  · rename_i h
    have g := rn_dim (x := x) (by unfold rnB at h; simp only [Bool.and_eq_true] at h; exact h.1)
    have N := netOf (x := x) (n := x.length) (m := (rowAt x 0).length) (base := base)
    exact ⟨by rw [N.r1]; omega, by rw [N.c1]; omega, Small.of_rows8 (by rw [N.l1]; omega) (fun k hk => by rw [N.ll k (by rw [N.l1] at hk; exact hk)]; omega), Small.of_rows8 (by rw [N.h1]; omega) (fun k hk => by rw [N.hl k (by rw [N.h1] at hk; exact hk)]; omega)⟩
  · exact ⟨by simp, by simp, Small.of_rows8 (by simp) (fun k hk => by simp at hk), Small.of_rows8 (by simp) (fun k hk => by simp at hk)⟩

set_option maxRecDepth 100000 in
set_option maxHeartbeats 3200000 in
theorem specRn_c (v1 : Value) (x : List (List Int)) (base : Int) (w : World) (h1 : Grid w v1 x) :
    Calls Try.prog 18 #[v1, .int .i64 base] w fun e w' => ∃ v', e = .returned (.tuple #[v', .bool (rnB x base)]) ∧ TrN w.heap.size w'.heap.size w' v' (rnNV x base) ∧ Ext w w' := by
  have H1 := Lib.hid h1; clear h1
  have u0 := (Ext.refl w).alloc (.cells #[.slice none 0 0, .slice none 0 0, .slice none 0 0, .slice none 0 0] 30)
  have b0 := Box.new w 30 #[.slice none 0 0, .slice none 0 0, .slice none 0 0, .slice none 0 0] rfl
  have nothing : ∀ (w' : World), Ext w w' → TrN w.heap.size w'.heap.size w' (.agg #[.slice none 0 0, .slice none 0 0, .slice none 0 0, .slice none 0 0]) ⟨[], [], [], []⟩ := fun w' _ => ⟨_, _, _, _, [], [], rfl, Own.nil, Own.nil, OwnG.nil, OwnG.nil⟩
  cases hg : rnB x base
  · have hV : rnNV x base = ⟨[], [], [], []⟩ := by simp [rnNV, hg]
    rw [hV]; clear hV
    have HG := Lib.hid (show (gridB 7 10000 x && (decide (2 ≤ base) && decide (base ≤ 100))) = false from hg); clear hg
    go_enter Try.func18, Try.ntmps18
    go_wp2_with fail
    refine (oGood_b false _ x base _ HG.out (H1.out.ext u0)).mono ?_
    rintro e w' ⟨rfl, rfl⟩
    have f0 := b0.free 0
    have f1 := b0.free 1
    have f2 := b0.free 2
    have f3 := b0.free 3
    have k0 := b0.cell 0 (by simp)
    have k1 := b0.cell 1 (by simp)
    have k2 := b0.cell 2 (by simp)
    have k3 := b0.cell 3 (by simp)
    go_wp2
    refine bodyPost_ret (v := .tuple #[.agg #[.slice none 0 0, .slice none 0 0, .slice none 0 0, .slice none 0 0], .bool false]) (by simp [results, Try.results18, go_sem, k0, k1, k2, k3]) rfl ⟨_, rfl, nothing _ ?_, ?_⟩
    · first | exact u0 | exact u0.put4 (Nat.le_refl _) _ _ _ _
    · first | exact u0 | exact u0.put4 (Nat.le_refl _) _ _ _ _
  · have HVT := Lib.hid (show rnNV x base = rnT x x.length (rowAt x 0).length base by simp [rnNV, hg])
    have HG := Lib.hid (show (gridB 7 10000 x && (decide (2 ≤ base) && decide (base ≤ 100))) = true from hg); clear hg
    have hg := HG.out
    simp only [Bool.and_eq_true, decide_eq_true_eq] at hg
    have HX := Lib.hid hg.1
    have hbs := hg.2
    clear hg
    go_enter Try.func18, Try.ntmps18
    go_wp2_with fail
    refine (oGood_b true _ x base _ HG.out (H1.out.ext u0)).mono ?_
    rintro e w' ⟨rfl, rfl⟩
    go_wp2_with fail
    refine (oNetwork_c _ x x.length (rowAt x 0).length base _ (H1.out.ext u0) rfl (rn_matOk HX.out) (rn_el HX.out) (rn_dim HX.out) hbs.1 hbs.2).mono ?_
    rintro e w2 ⟨v2, rfl, o2, u2⟩
    have O2 := Lib.hid o2
    obtain ⟨a0, c0, a1, c1, a2, c2, a3, c3, rfl, _⟩ := o2.read.form
    clear o2
    have b2 := b0.ext u2
    have f0 := b2.free 0
    have f1 := b2.free 1
    have f2 := b2.free 2
    have f3 := b2.free 3
    have k0 := b2.cell 0 (by simp)
    have k1 := b2.cell 1 (by simp)
    have k2 := b2.cell 2 (by simp)
    have k3 := b2.cell 3 (by simp)
    obtain ⟨T, hT⟩ : ∃ T, rnT x x.length (rowAt x 0).length base = T := ⟨_, rfl⟩
    rw [hT] at O2 HVT ⊢
    clear hT
    go_wp2
    refine bodyPost_ret (v := .tuple #[.agg #[.slice a0 T.rows.length c0, .slice a1 T.cols.length c1, .slice a2 T.lo.length c2, .slice a3 T.hi.length c3], .bool true]) (by simp [results, Try.results18, go_sem, k0, k1, k2, k3]) rfl ⟨_, rfl, ?_, (u0.trans u2).put4 (Nat.le_refl _) _ _ _ _⟩
    have hs := put4_size w2 w.heap.size (.slice a0 T.rows.length c0) (.slice a1 T.cols.length c1) (.slice a2 T.lo.length c2) (.slice a3 T.hi.length c3)
    have hlt : w.heap.size < (w.alloc (.cells #[.slice none 0 0, .slice none 0 0, .slice none 0 0, .slice none 0 0] 30)).heap.size := by simp
    rw [HVT.out]
    exact (O2.out.away (Upd.put4 (Upd.refl w2) rfl _ _ _ _) (fun b hb => .inl (by subst hb; exact hlt))).mono (Nat.le_of_lt hlt) (Nat.le_of_eq hs.symm)

set_option maxRecDepth 100000 in
set_option maxHeartbeats 3200000 in
theorem implRn_c (v1 : Value) (x : List (List Int)) (base : Int) (w : World) (h1 : Grid w v1 x) :
    Calls Try.prog 19 #[v1, .int .i64 base] w fun e w' => ∃ v', e = .returned (.tuple #[v', .bool (rnB x base)]) ∧ TrO w.heap.size w'.heap.size w' v' (rnNV x base) ∧ Ext w w' := by
  have H1 := Lib.hid h1; clear h1
  have u0 := (Ext.refl w).alloc (.cells #[.slice none 0 0, .slice none 0 0, .slice none 0 0, .slice none 0 0] 30)
  have b0 := Box.new w 30 #[.slice none 0 0, .slice none 0 0, .slice none 0 0, .slice none 0 0] rfl
  have nothing : ∀ (w' : World), Ext w w' → TrO w.heap.size w'.heap.size w' (.agg #[.slice none 0 0, .slice none 0 0, .slice none 0 0, .slice none 0 0]) ⟨[], [], [], []⟩ := fun w' _ => ⟨_, _, _, _, [], [], rfl, Own.nil, Own.nil, OwnG.nil, OwnG.nil, fun b h _ => rn_nIB h, fun b h _ => rn_nIB h, fun b h _ => rn_nIB h, fun b h _ => rn_nIB h, fun b h _ => rn_nIB h, fun b h _ => rn_nGB h⟩
  cases hx : gridB 7 10000 x
  · have hg : rnB x base = false := by unfold rnB; rw [hx]; rfl
    have hV : rnNV x base = ⟨[], [], [], []⟩ := by simp [rnNV, hg]
    rw [hV, hg]; clear hV hg
    have HX := Lib.hid hx; clear hx
    go_enter Try.func19, Try.ntmps19
    go_wp2_with fail
    refine (isMatrix_b false _ x _ HX.out (H1.out.ext u0)).mono ?_
    rintro e w' ⟨rfl, rfl⟩
    have f0 := b0.free 0
    have f1 := b0.free 1
    have f2 := b0.free 2
    have f3 := b0.free 3
    have k0 := b0.cell 0 (by simp)
    have k1 := b0.cell 1 (by simp)
    have k2 := b0.cell 2 (by simp)
    have k3 := b0.cell 3 (by simp)
    go_wp2
    refine bodyPost_ret (v := .tuple #[.agg #[.slice none 0 0, .slice none 0 0, .slice none 0 0, .slice none 0 0], .bool false]) (by simp [results, Try.results19, go_sem, k0, k1, k2, k3]) rfl ⟨_, rfl, nothing _ ?_, ?_⟩
    · first | exact u0 | exact u0.put4 (Nat.le_refl _) _ _ _ _
    · first | exact u0 | exact u0.put4 (Nat.le_refl _) _ _ _ _
  cases hbb : (decide (2 ≤ base) && decide (base ≤ 100))
  · have hg : rnB x base = false := by unfold rnB; rw [hx, hbb]; rfl
    have hV : rnNV x base = ⟨[], [], [], []⟩ := by simp [rnNV, hg]
    rw [hV, hg]; clear hV hg
    have HX := Lib.hid hx; clear hx
    have HBB := Lib.hid hbb; clear hbb
    go_enter Try.func19, Try.ntmps19
    go_wp2_with fail
    refine (isMatrix_b true _ x _ HX.out (H1.out.ext u0)).mono ?_
    rintro e w' ⟨rfl, rfl⟩
    go_wp2_with fail
    refine (isBaseOf_b false base _ HBB.out).mono ?_
    rintro e w' ⟨rfl, rfl⟩
    have f0 := b0.free 0
    have f1 := b0.free 1
    have f2 := b0.free 2
    have f3 := b0.free 3
    have k0 := b0.cell 0 (by simp)
    have k1 := b0.cell 1 (by simp)
    have k2 := b0.cell 2 (by simp)
    have k3 := b0.cell 3 (by simp)
    go_wp2
    refine bodyPost_ret (v := .tuple #[.agg #[.slice none 0 0, .slice none 0 0, .slice none 0 0, .slice none 0 0], .bool false]) (by simp [results, Try.results19, go_sem, k0, k1, k2, k3]) rfl ⟨_, rfl, nothing _ ?_, ?_⟩
    · first | exact u0 | exact u0.put4 (Nat.le_refl _) _ _ _ _
    · first | exact u0 | exact u0.put4 (Nat.le_refl _) _ _ _ _
  have hg : rnB x base = true := by unfold rnB; rw [hx, hbb]; rfl
  have HVT := Lib.hid (show rnNV x base = rnT x x.length (rowAt x 0).length base by simp [rnNV, hg])
  rw [hg]; clear hg
  have hbs : 2 ≤ base ∧ base ≤ 100 := by simpa using hbb
  have HX := Lib.hid hx; clear hx
  have HBB := Lib.hid hbb; clear hbb
  go_enter Try.func19, Try.ntmps19
  go_wp2_with fail
  refine (isMatrix_b true _ x _ HX.out (H1.out.ext u0)).mono ?_
  rintro e w' ⟨rfl, rfl⟩
  go_wp2_with fail
  refine (isBaseOf_b true base _ HBB.out).mono ?_
  rintro e w' ⟨rfl, rfl⟩
  go_wp2_with fail
  refine (roundingNetwork_c _ x x.length (rowAt x 0).length base _ (H1.out.ext u0) rfl (rn_matOk HX.out) (rn_el HX.out) (rn_dim HX.out) hbs.1 hbs.2).mono ?_
  rintro e w2 ⟨v2, rfl, o2, u2⟩
  have O2 := Lib.hid o2
  obtain ⟨a0, c0, a1, c1, a2, c2, a3, c3, rfl, _⟩ := o2.read.form
  clear o2
  have b2 := b0.ext u2
  have f0 := b2.free 0
  have f1 := b2.free 1
  have f2 := b2.free 2
  have f3 := b2.free 3
  have k0 := b2.cell 0 (by simp)
  have k1 := b2.cell 1 (by simp)
  have k2 := b2.cell 2 (by simp)
  have k3 := b2.cell 3 (by simp)
  obtain ⟨T, hT⟩ : ∃ T, rnT x x.length (rowAt x 0).length base = T := ⟨_, rfl⟩
  rw [hT] at O2 HVT ⊢
  clear hT
  go_wp2
  refine bodyPost_ret (v := .tuple #[.agg #[.slice a0 T.rows.length c0, .slice a1 T.cols.length c1, .slice a2 T.lo.length c2, .slice a3 T.hi.length c3], .bool true]) (by simp [results, Try.results19, go_sem, k0, k1, k2, k3]) rfl ⟨_, rfl, ?_, (u0.trans u2).put4 (Nat.le_refl _) _ _ _ _⟩
  have hs := put4_size w2 w.heap.size (.slice a0 T.rows.length c0) (.slice a1 T.cols.length c1) (.slice a2 T.lo.length c2) (.slice a3 T.hi.length c3)
  have hlt : w.heap.size < (w.alloc (.cells #[.slice none 0 0, .slice none 0 0, .slice none 0 0, .slice none 0 0] 30)).heap.size := by simp
  rw [HVT.out]
  exact (O2.out.away (Upd.put4 (Upd.refl w2) rfl _ _ _ _) (fun b hb => .inl (by subst hb; exact hlt))).mono (Nat.le_of_lt hlt) (Nat.le_of_eq hs.symm)
end Go.Proofs.Ytjpomfdmgaambaa
namespace Go.Proofs.Ytjpomfdmgaambaa
open Go.RowKit
open Fm

def okIJ (T : Tr) (i j : Int) : Bool := (decide (0 ≤ i) && decide (i < T.rows.length)) && (decide (0 ≤ j) && decide (j < T.cols.length))
noncomputable def crB (T : Tr) (i j : Int) : Bool := trB T && (okIJ T i j && feasB T)
noncomputable def crLo (T : Tr) (i j : Int) : Int := if crB T i j = true then lowV T i.toNat j.toNat else 0
noncomputable def crHi (T : Tr) (i j : Int) : Int := if crB T i j = true then highV T i.toNat j.toNat else 0
theorem cr_off {T : Tr} {i j : Int} (h : crB T i j = false) : crLo T i j = 0 ∧ crHi T i j = 0 := by simp [crLo, crHi, h]
theorem cr_on {T : Tr} {i j : Nat} {b : Bool} (ht : trB T = true) (hi : i < T.rows.length) (hj : j < T.cols.length) (hb : feasB T = b) :
    crB T i j = b ∧ crLo T i j = (if b = true then lowV T i j else 0) ∧ crHi T i j = (if b = true then highV T i j else 0) := by
  have e : crB T i j = b := by simp [crB, okIJ, ht, hb, hi, hj]
  refine ⟨e, ?_, ?_⟩
  · simp [crLo, e]
  · simp [crHi, e]

set_option maxRecDepth 100000 in
set_option maxHeartbeats 3200000 in
theorem implCell_c (v : Value) (T : Tr) (i j : Int) (w : World) (h : TrR w v T) :
    Calls Try.prog 45 #[v, .int .i64 i, .int .i64 j] w fun e w' => e = .returned (.tuple #[.int .i64 (crLo T i j), .int .i64 (crHi T i j), .bool (crB T i j)]) ∧ Ext w w' := by
  have H := Lib.hid h
  obtain ⟨a0, c0, a1, c1, a2, c2, a3, c3, rfl, n0, n1, n2, n3⟩ := h.form
  clear h
  have u0 := (Ext.refl w).alloc (.cells #[.slice a0 T.rows.length c0, .slice a1 T.cols.length c1, .slice a2 T.lo.length c2, .slice a3 T.hi.length c3] 30)
  have b0 := Box.new w 30 #[.slice a0 T.rows.length c0, .slice a1 T.cols.length c1, .slice a2 T.lo.length c2, .slice a3 T.hi.length c3] rfl
  have k0 := b0.cell 0 (by simp)
  have k1 := b0.cell 1 (by simp)
  have k2 := b0.cell 2 (by simp)
  have k3 := b0.cell 3 (by simp)
  have q22 : ∀ (w : World) (a : Option Addr) (n c : Nat), (binOp .eql 23 (.slice a n c) (.slice none 0 0)).run Try.prog w = .ok (.bool a.isNone) w := fun w a n c => Go.Lib.run_eql_slice_nil w _ _ a n c 0 0 Try.underlying23
  cases ht : trB T
  · have hB : crB T i j = false := by simp [crB, ht]
    rw [(cr_off hB).1, (cr_off hB).2, hB]
    clear hB
    have HT := Lib.hid ht; clear ht
    go_enter Try.func45, Try.ntmps45
    go_wp2_with fail
    refine (implIsTransport_b false _ T _ HT.out (H.out.ext u0)).mono ?_
    rintro e w1 ⟨rfl, u1⟩
    go_wp2
    go_ret3
    exact ⟨rfl, u0.trans u1⟩
  have HT := Lib.hid ht; clear ht
  have HO := Lib.hid (trB_true.1 HT.out)
  by_cases hij : (0 ≤ i ∧ i < T.rows.length) ∧ (0 ≤ j ∧ j < T.cols.length)
  case neg =>
    have hB : crB T i j = false := by
      have : okIJ T i j = false := by
        apply Bool.eq_false_iff.2
        intro e
        simp only [okIJ, Bool.and_eq_true, decide_eq_true_eq] at e
        exact hij e
      simp only [crB, this, Bool.false_and, Bool.and_false]
    rw [(cr_off hB).1, (cr_off hB).2, hB]
    clear hB
    go_enter Try.func45, Try.ntmps45
    go_wp2_with fail
    refine (implIsTransport_b true _ T _ HT.out (H.out.ext u0)).mono ?_
    rintro e w1 ⟨rfl, u1⟩
    have b1 := b0.ext u1
    have y0 := b1.cell 0 (by simp)
    have y1 := b1.cell 1 (by simp)
    by_cases p1 : i < 0
    · go_wp2
      go_ret3
      exact ⟨rfl, u0.trans u1⟩
    by_cases p2 : (T.rows.length : Int) ≤ i
    · go_wp2
      go_ret3
      exact ⟨rfl, u0.trans u1⟩
    by_cases p3 : j < 0
    · go_wp2
      go_ret3
      exact ⟨rfl, u0.trans u1⟩
    have p4 : (T.cols.length : Int) ≤ j := by omega
    go_wp2
    go_ret3
    exact ⟨rfl, u0.trans u1⟩
  obtain ⟨hi, hj⟩ := hij
  obtain ⟨i', rfl⟩ : ∃ k : Nat, i = k := ⟨i.toNat, by omega⟩
  obtain ⟨j', rfl⟩ : ∃ k : Nat, j = k := ⟨j.toNat, by omega⟩
  have hi2 : i' < T.rows.length := by omega
  have hj2 : j' < T.cols.length := by omega
  clear hi hj
  by_cases hfe : ∃ x, Flow (NetT T) x
  case neg =>
    have hc := cr_on HT.out hi2 hj2 (feasB_not hfe)
    rw [hc.1, hc.2.1, hc.2.2]
    clear hc
    have HF := Lib.hid hfe; clear hfe
    go_enter Try.func45, Try.ntmps45
    go_wp2_with fail
    refine (implIsTransport_b true _ T _ HT.out (H.out.ext u0)).mono ?_
    rintro e w1 ⟨rfl, u1⟩
    have b1 := b0.ext u1
    have y0 := b1.cell 0 (by simp)
    have y1 := b1.cell 1 (by simp)
    have y2 := b1.cell 2 (by simp)
    have y3 := b1.cell 3 (by simp)
    have v1 := u0.trans u1
    go_wp2_with fail
    refine (anyFlow_c _ T _ (H.out.ext v1) HO.out).mono ?_
    rintro e w2 ⟨x2, rfl, u2, hp⟩
    rcases hp with ⟨rfl, hno⟩ | ⟨rvs, X, b, o, cap, rfl, oX, rcX, hfl⟩
    · clear hno
      go_wp2
      go_ret3
      exact ⟨rfl, v1.trans u2⟩
    · exact absurd ⟨_, hfl⟩ HF.out
  have hc := cr_on HT.out hi2 hj2 (feasB_of hfe)
  rw [hc.1, hc.2.1, hc.2.2]
  simp only [if_true]
  clear hc
  have HF := Lib.hid hfe; clear hfe
  have e2 : T.lo.length = T.rows.length := HO.out.rcLo.len
  have e3 : T.hi.length = T.rows.length := HO.out.rcHi.len
  rw [e2, e3] at b0 k2 k3 u0 H ⊢
  clear e2 e3
  obtain ⟨VL, hVL⟩ : ∃ V, lowV T i' j' = V := ⟨_, rfl⟩
  obtain ⟨VH, hVH⟩ : ∃ V, highV T i' j' = V := ⟨_, rfl⟩
  rw [hVL, hVH]
  have HVL := Lib.hid hVL; clear hVL
  have HVH := Lib.hid hVH; clear hVH
  go_enter Try.func45, Try.ntmps45
  go_wp2_with fail
  refine (implIsTransport_b true _ T _ HT.out (H.out.ext u0)).mono ?_
  rintro e w1 ⟨rfl, u1⟩
  have b1 := b0.ext u1
  have y0 := b1.cell 0 (by simp)
  have y1 := b1.cell 1 (by simp)
  have y2 := b1.cell 2 (by simp)
  have y3 := b1.cell 3 (by simp)
  have v1 := u0.trans u1
  go_wp2_with fail
  refine (anyFlow_c _ T _ (H.out.ext v1) HO.out).mono ?_
  rintro e w2 ⟨x2, rfl, u2, hp⟩
  rcases hp with ⟨_, hno⟩ | ⟨rvs, X, b, o, cap, rfl, oX, rcX, hfl⟩
  · exact absurd HF.out hno
  · have hG := oX.grid
    have HG := Lib.hid hG; clear hG oX
    have HR := Lib.hid rcX; clear rcX
    have HFL := Lib.hid hfl; clear hfl
    have b2 := b1.ext u2
    have z0 := b2.cell 0 (by simp)
    have z1 := b2.cell 1 (by simp)
    have z2 := b2.cell 2 (by simp)
    have z3 := b2.cell 3 (by simp)
    have v2 := v1.trans u2
    go_wp2_with fail
    refine (rangeOf_c T X a0 a1 a2 a3 (some ⟨b, o, none⟩) c0 c1 c2 c3 cap T.rows.length T.cols.length i' j' _ rfl rfl (H.out.ext v2) HG.out HO.out HR.out HFL.out hi2 hj2).mono ?_
    rw [HVL.out, HVH.out]
    rintro e w3 ⟨rfl, u3⟩
    go_wp2
    go_ret3
    exact ⟨rfl, v2.trans u3⟩
end Go.Proofs.Ytjpomfdmgaambaa
namespace Go.Proofs.Ytjpomfdmgaambaa
open Go.RowKit
open Fm

def rrA (x : List (List Int)) (base i j : Int) : Bool := rnB x base && ((decide (0 ≤ i) && decide (i < x.length)) && (decide (0 ≤ j) && decide (j < (rowAt x 0).length)))
noncomputable def rrB (x : List (List Int)) (base i j : Int) : Bool := rrA x base i j && feasB (rnT x x.length (rowAt x 0).length base)
noncomputable def rrLo (x : List (List Int)) (base i j : Int) : Int := if rrA x base i j = true then IntKind.i64.wrap ((if feasB (rnT x x.length (rowAt x 0).length base) = true then lowV (rnT x x.length (rowAt x 0).length base) i.toNat j.toNat else 0) * base) else 0
noncomputable def rrHi (x : List (List Int)) (base i j : Int) : Int := if rrA x base i j = true then IntKind.i64.wrap ((if feasB (rnT x x.length (rowAt x 0).length base) = true then highV (rnT x x.length (rowAt x 0).length base) i.toNat j.toNat else 0) * base) else 0
theorem rr_off {x : List (List Int)} {base i j : Int} (h : rrA x base i j = false) : rrLo x base i j = 0 ∧ rrHi x base i j = 0 ∧ rrB x base i j = false := by simp [rrLo, rrHi, rrB, h]
theorem rr_on {x : List (List Int)} {base : Int} {i j : Nat} {b : Bool} (hg : rnB x base = true) (hi : i < x.length) (hj : j < (rowAt x 0).length) (hb : feasB (rnT x x.length (rowAt x 0).length base) = b) :
    rrLo x base i j = IntKind.i64.wrap ((if b = true then lowV (rnT x x.length (rowAt x 0).length base) i j else 0) * base) ∧ rrHi x base i j = IntKind.i64.wrap ((if b = true then highV (rnT x x.length (rowAt x 0).length base) i j else 0) * base) ∧ rrB x base i j = b := by
  have e : rrA x base i j = true := by simp [rrA, hg, hi, hj]
  refine ⟨?_, ?_, ?_⟩
  · simp [rrLo, e, hb]
  · simp [rrHi, e, hb]
  · simp [rrB, e, hb]

set_option maxRecDepth 100000 in
set_option maxHeartbeats 3200000 in
theorem specRr_c (v : Value) (x : List (List Int)) (base i j : Int) (w : World) (h : Grid w v x) :
    Calls Try.prog 21 #[v, .int .i64 base, .int .i64 i, .int .i64 j] w fun e w' => e = .returned (.tuple #[.int .i64 (rrLo x base i j), .int .i64 (rrHi x base i j), .bool (rrB x base i j)]) ∧ Ext w w' := by
  have H := Lib.hid h
  obtain ⟨ax, cx, rfl, hx1, hx2, hx3⟩ := h
  have GX := Lib.hid hx3; clear hx3
  cases hg : rnB x base
  · have hA : rrA x base i j = false := by simp [rrA, hg]
    rw [(rr_off hA).1, (rr_off hA).2.1, (rr_off hA).2.2]
    clear hA
    have HG := Lib.hid (show (gridB 7 10000 x && (decide (2 ≤ base) && decide (base ≤ 100))) = false from hg); clear hg
    go_enter Try.func21, Try.ntmps21
    go_wp2_with fail
    refine (oGood_b false _ x base _ HG.out H.out).mono ?_
    rintro e w' ⟨rfl, rfl⟩
    go_wp2
    go_ret3
    exact ⟨rfl, Ext.refl _⟩
  have HG := Lib.hid (show (gridB 7 10000 x && (decide (2 ≤ base) && decide (base ≤ 100))) = true from hg)
  have hg' := HG.out
  simp only [Bool.and_eq_true, decide_eq_true_eq] at hg'
  have HX := Lib.hid hg'.1
  have hbs := hg'.2
  clear hg'
  have hd := rn_dim HX.out
  by_cases hi : 0 ≤ i ∧ i < x.length
  case neg =>
    have hA : rrA x base i j = false := by
      have : (decide (0 ≤ i) && decide (i < x.length)) = false := by rw [Bool.and_eq_false_iff]; simp only [decide_eq_false_iff_not]; omega
      simp only [rrA, this, Bool.false_and, Bool.and_false]
    rw [(rr_off hA).1, (rr_off hA).2.1, (rr_off hA).2.2]
    clear hA
    have HI : Hid ((decide (0 ≤ i) && decide (i ≤ (x.length : Int) - 1)) = false) := Lib.hid (by rw [Bool.and_eq_false_iff]; simp only [decide_eq_false_iff_not]; omega)
    clear hi hg
    go_enter Try.func21, Try.ntmps21
    go_wp2_with fail
    refine (oGood_b true _ x base _ HG.out H.out).mono ?_
    rintro e w' ⟨rfl, rfl⟩
    go_wp2_with fail
    refine (l1In_b false i 0 ((x.length : Int) - 1) _ HI.out).mono ?_
    rintro e w1 ⟨rfl, rfl⟩
    go_wp2
    go_ret3
    exact ⟨rfl, Ext.refl _⟩
  have HI : Hid ((decide (0 ≤ i) && decide (i ≤ (x.length : Int) - 1)) = true) := Lib.hid (by rw [Bool.and_eq_true]; simp only [decide_eq_true_eq]; omega)
  obtain ⟨b, o, ar0, cr0, rfl, hc0, q1, q2, q3⟩ := GX.out.at0 (by omega)
  clear q3
  have x0 : (0 : Int) < (x.length : Int) := by omega
  by_cases hj : 0 ≤ j ∧ j < (rowAt x 0).length
  case neg =>
    have hA : rrA x base i j = false := by
      have : (decide (0 ≤ j) && decide (j < (rowAt x 0).length)) = false := by rw [Bool.and_eq_false_iff]; simp only [decide_eq_false_iff_not]; omega
      simp only [rrA, this, Bool.and_false]
    rw [(rr_off hA).1, (rr_off hA).2.1, (rr_off hA).2.2]
    clear hA
    have HJ : Hid ((decide (0 ≤ j) && decide (j ≤ ((rowAt x 0).length : Int) - 1)) = false) := Lib.hid (by rw [Bool.and_eq_false_iff]; simp only [decide_eq_false_iff_not]; omega)
    clear hi hj hg
    go_enter Try.func21, Try.ntmps21
    go_wp2_with fail
    refine (oGood_b true _ x base _ HG.out H.out).mono ?_
    rintro e w' ⟨rfl, rfl⟩
    go_wp2_with fail
    refine (l1In_b true i 0 ((x.length : Int) - 1) _ HI.out).mono ?_
    rintro e w1 ⟨rfl, rfl⟩
    go_wp2_with fail
    refine (l1In_b false j 0 (((rowAt x 0).length : Int) - 1) _ HJ.out).mono ?_
    rintro e w1 ⟨rfl, rfl⟩
    go_wp2
    go_ret3
    exact ⟨rfl, Ext.refl _⟩
  have HJ : Hid ((decide (0 ≤ j) && decide (j ≤ ((rowAt x 0).length : Int) - 1)) = true) := Lib.hid (by rw [Bool.and_eq_true]; simp only [decide_eq_true_eq]; omega)
  obtain ⟨i', rfl⟩ : ∃ k : Nat, i = k := ⟨i.toNat, by omega⟩
  obtain ⟨j', rfl⟩ : ∃ k : Nat, j = k := ⟨j.toNat, by omega⟩
  obtain ⟨b9, hb⟩ : ∃ b, feasB (rnT x x.length (rowAt x 0).length base) = b := ⟨_, rfl⟩
  have hon := rr_on hg (i := i') (j := j') (by omega) (by omega) hb
  rw [hon.1, hon.2.1, hon.2.2]
  clear hon
  have OK := Lib.hid (rnT_ok (rn_matOk HX.out) (rn_el HX.out) rfl hd hbs.1 hbs.2)
  have hN := netOf (x := x) (n := x.length) (m := (rowAt x 0).length) (base := base)
  have L0 := Lib.hid hN.r1
  have L1 := Lib.hid hN.c1
  have L2 := Lib.hid (hN.l1.trans hN.r1.symm)
  have L3 := Lib.hid (hN.h1.trans hN.r1.symm)
  clear hN
  have hi2 : i' < x.length := by omega
  have hj2 : j' < (rowAt x 0).length := by omega
  obtain ⟨VL, hVL⟩ : ∃ V, (if b9 = true then lowV (rnT x x.length (rowAt x 0).length base) i' j' else 0) = V := ⟨_, rfl⟩
  obtain ⟨VH, hVH⟩ : ∃ V, (if b9 = true then highV (rnT x x.length (rowAt x 0).length base) i' j' else 0) = V := ⟨_, rfl⟩
  rw [hVL, hVH]
  have HVL := Lib.hid hVL; clear hVL
  have HVH := Lib.hid hVH; clear hVH
  obtain ⟨PL, hPL⟩ : ∃ y, IntKind.i64.wrap (VL * base) = y := ⟨_, rfl⟩
  obtain ⟨PH, hPH⟩ : ∃ y, IntKind.i64.wrap (VH * base) = y := ⟨_, rfl⟩
  rw [hPL, hPH]
  have hPL' : wrap64 (VL * base) = PL := (IntWalk.i64_left _).symm.trans hPL
  have hPH' : wrap64 (VH * base) = PH := (IntWalk.i64_left _).symm.trans hPH
  have HB := Lib.hid hb; clear hb hi hj hg
  have HD := Lib.hid hd
  go_enter Try.func21, Try.ntmps21
  go_wp2_with fail
  refine (oGood_b true _ x base _ HG.out H.out).mono ?_
  rintro e w' ⟨rfl, rfl⟩
  go_wp2_with fail
  refine (l1In_b true i' 0 ((x.length : Int) - 1) _ HI.out).mono ?_
  rintro e w1 ⟨rfl, rfl⟩
  go_wp2_with fail
  refine (l1In_b true j' 0 (((rowAt x 0).length : Int) - 1) _ HJ.out).mono ?_
  rintro e w1 ⟨rfl, rfl⟩
  go_wp2_with fail
  refine (oNetwork_c _ x x.length (rowAt x 0).length base _ H.out rfl (rn_matOk HX.out) (rn_el HX.out) HD.out hbs.1 hbs.2).mono ?_
  rintro e w2 ⟨v2, rfl, o2, u2⟩
  have O2 := Lib.hid o2.read
  obtain ⟨a0, c0, a1, c1, a2, c2, a3, c3, rfl, q4⟩ := o2.read.form
  clear o2 q4
  obtain ⟨T, hT⟩ : ∃ T, rnT x x.length (rowAt x 0).length base = T := ⟨_, rfl⟩
  rw [hT] at O2 OK L0 L1 L2 L3 HB HVL HVH ⊢
  rw [L2.out, L3.out] at O2 ⊢
  rw [L0.out, L1.out] at O2 ⊢
  go_wp2_with fail
  refine (tRange_c b9 T _ _ _ _ _ _ _ _ (x.length + 1) ((rowAt x 0).length + 1) i' j' _ HB.out L0.out L1.out O2.out OK.out (by omega) (by omega)).mono ?_
  rintro e w3 ⟨rfl, u3⟩
  rw [HVL.out, HVH.out]
  go_wp2
  go_ret3
  exact ⟨rfl, u2.trans u3⟩

set_option maxRecDepth 100000 in
set_option maxHeartbeats 3200000 in
theorem implRr_c (v : Value) (x : List (List Int)) (base i j : Int) (w : World) (h : Grid w v x) :
    Calls Try.prog 22 #[v, .int .i64 base, .int .i64 i, .int .i64 j] w fun e w' => e = .returned (.tuple #[.int .i64 (rrLo x base i j), .int .i64 (rrHi x base i j), .bool (rrB x base i j)]) ∧ Ext w w' := by
  have H := Lib.hid h
  obtain ⟨ax, cx, rfl, hx1, hx2, hx3⟩ := h
  have GX := Lib.hid hx3; clear hx3
  cases hx : gridB 7 10000 x
  · have hA : rrA x base i j = false := by simp [rrA, rnB, hx]
    rw [(rr_off hA).1, (rr_off hA).2.1, (rr_off hA).2.2]
    clear hA
    have HX := Lib.hid hx; clear hx
    go_enter Try.func22, Try.ntmps22
    go_wp2_with fail
    refine (isMatrix_b false _ x _ HX.out H.out).mono ?_
    rintro e w' ⟨rfl, rfl⟩
    go_wp2
    go_ret3
    exact ⟨rfl, Ext.refl _⟩
  cases hbb : (decide (2 ≤ base) && decide (base ≤ 100))
  · have hA : rrA x base i j = false := by simp only [rrA, rnB, hbb, Bool.and_false, Bool.false_and]
    rw [(rr_off hA).1, (rr_off hA).2.1, (rr_off hA).2.2]
    clear hA
    have HX := Lib.hid hx; clear hx
    have HBB := Lib.hid hbb; clear hbb
    go_enter Try.func22, Try.ntmps22
    go_wp2_with fail
    refine (isMatrix_b true _ x _ HX.out H.out).mono ?_
    rintro e w' ⟨rfl, rfl⟩
    go_wp2_with fail
    refine (isBaseOf_b false base _ HBB.out).mono ?_
    rintro e w' ⟨rfl, rfl⟩
    go_wp2
    go_ret3
    exact ⟨rfl, Ext.refl _⟩
  have hg : rnB x base = true := by unfold rnB; rw [hx, hbb]; rfl
  have hbs : 2 ≤ base ∧ base ≤ 100 := by simpa using hbb
  have HX := Lib.hid hx; clear hx
  have HBB := Lib.hid hbb; clear hbb
  have hd := rn_dim HX.out
  obtain ⟨b, o, ar0, cr0, rfl, hc0, q1, q2, q3⟩ := GX.out.at0 (by omega)
  clear q3
  have x0 : (0 : Int) < (x.length : Int) := by omega
  by_cases hi : 0 ≤ i ∧ i < x.length
  case neg =>
    have hA : rrA x base i j = false := by
      have : (decide (0 ≤ i) && decide (i < x.length)) = false := by rw [Bool.and_eq_false_iff]; simp only [decide_eq_false_iff_not]; omega
      simp only [rrA, this, Bool.false_and, Bool.and_false]
    rw [(rr_off hA).1, (rr_off hA).2.1, (rr_off hA).2.2]
    clear hA hg
    by_cases hi0 : i < 0
    · clear hi
      go_enter Try.func22, Try.ntmps22
      go_wp2_with fail
      refine (isMatrix_b true _ x _ HX.out H.out).mono ?_
      rintro e w' ⟨rfl, rfl⟩
      go_wp2_with fail
      refine (isBaseOf_b true base _ HBB.out).mono ?_
      rintro e w' ⟨rfl, rfl⟩
      go_wp2
      go_ret3
      exact ⟨rfl, Ext.refl _⟩
    · have hi1 : (x.length : Int) ≤ i := by omega
      clear hi
      go_enter Try.func22, Try.ntmps22
      go_wp2_with fail
      refine (isMatrix_b true _ x _ HX.out H.out).mono ?_
      rintro e w' ⟨rfl, rfl⟩
      go_wp2_with fail
      refine (isBaseOf_b true base _ HBB.out).mono ?_
      rintro e w' ⟨rfl, rfl⟩
      go_wp2
      go_ret3
      exact ⟨rfl, Ext.refl _⟩
  by_cases hj : 0 ≤ j ∧ j < (rowAt x 0).length
  case neg =>
    have hA : rrA x base i j = false := by
      have : (decide (0 ≤ j) && decide (j < (rowAt x 0).length)) = false := by rw [Bool.and_eq_false_iff]; simp only [decide_eq_false_iff_not]; omega
      simp only [rrA, this, Bool.and_false]
    rw [(rr_off hA).1, (rr_off hA).2.1, (rr_off hA).2.2]
    clear hA hg
    have i0 : ¬ i < 0 := by omega
    have i1 : ¬ (x.length : Int) ≤ i := by omega
    clear hi
    by_cases hj0 : j < 0
    · clear hj
      go_enter Try.func22, Try.ntmps22
      go_wp2_with fail
      refine (isMatrix_b true _ x _ HX.out H.out).mono ?_
      rintro e w' ⟨rfl, rfl⟩
      go_wp2_with fail
      refine (isBaseOf_b true base _ HBB.out).mono ?_
      rintro e w' ⟨rfl, rfl⟩
      go_wp2
      go_ret3
      exact ⟨rfl, Ext.refl _⟩
    · have hj1 : ((rowAt x 0).length : Int) ≤ j := by omega
      clear hj
      go_enter Try.func22, Try.ntmps22
      go_wp2_with fail
      refine (isMatrix_b true _ x _ HX.out H.out).mono ?_
      rintro e w' ⟨rfl, rfl⟩
      go_wp2_with fail
      refine (isBaseOf_b true base _ HBB.out).mono ?_
      rintro e w' ⟨rfl, rfl⟩
      go_wp2
      go_ret3
      exact ⟨rfl, Ext.refl _⟩
  obtain ⟨i', rfl⟩ : ∃ k : Nat, i = k := ⟨i.toNat, by omega⟩
  obtain ⟨j', rfl⟩ : ∃ k : Nat, j = k := ⟨j.toNat, by omega⟩
  obtain ⟨b9, hb⟩ : ∃ b, feasB (rnT x x.length (rowAt x 0).length base) = b := ⟨_, rfl⟩
  have hon := rr_on hg (i := i') (j := j') (by omega) (by omega) hb
  rw [hon.1, hon.2.1, hon.2.2]
  clear hon
  have OK := Lib.hid (rnT_ok (rn_matOk HX.out) (rn_el HX.out) rfl hd hbs.1 hbs.2)
  have hN := netOf (x := x) (n := x.length) (m := (rowAt x 0).length) (base := base)
  have L0 := Lib.hid hN.r1
  have L1 := Lib.hid hN.c1
  clear hN
  have CR := Lib.hid (cr_on (T := rnT x x.length (rowAt x 0).length base) (i := i') (j := j') (trB_true.2 OK.out) (by rw [L0.out]; omega) (by rw [L1.out]; omega) hb)
  obtain ⟨VL, hVL⟩ : ∃ V, (if b9 = true then lowV (rnT x x.length (rowAt x 0).length base) i' j' else 0) = V := ⟨_, rfl⟩
  obtain ⟨VH, hVH⟩ : ∃ V, (if b9 = true then highV (rnT x x.length (rowAt x 0).length base) i' j' else 0) = V := ⟨_, rfl⟩
  rw [hVL, hVH] at CR ⊢
  clear hVL hVH hb hg
  obtain ⟨PL, hPL⟩ : ∃ y, IntKind.i64.wrap (VL * base) = y := ⟨_, rfl⟩
  obtain ⟨PH, hPH⟩ : ∃ y, IntKind.i64.wrap (VH * base) = y := ⟨_, rfl⟩
  rw [hPL, hPH]
  have hPL' : wrap64 (VL * base) = PL := (IntWalk.i64_left _).symm.trans hPL
  have hPH' : wrap64 (VH * base) = PH := (IntWalk.i64_left _).symm.trans hPH
  have i1 : ¬ (x.length : Int) ≤ (i' : Int) := by omega
  have j1 : ¬ ((rowAt x 0).length : Int) ≤ (j' : Int) := by omega
  have i0 : ¬ (i' : Int) < 0 := by omega
  have j0 : ¬ (j' : Int) < 0 := by omega
  have HD := Lib.hid hd
  clear hi hj
  go_enter Try.func22, Try.ntmps22
  go_wp2_with fail
  refine (isMatrix_b true _ x _ HX.out H.out).mono ?_
  rintro e w' ⟨rfl, rfl⟩
  go_wp2_with fail
  refine (isBaseOf_b true base _ HBB.out).mono ?_
  rintro e w' ⟨rfl, rfl⟩
  go_wp2_with fail
  refine (roundingNetwork_c _ x x.length (rowAt x 0).length base _ H.out rfl (rn_matOk HX.out) (rn_el HX.out) HD.out hbs.1 hbs.2).mono ?_
  rintro e w2 ⟨v2, rfl, o2, u2⟩
  have O2 := Lib.hid o2.read
  obtain ⟨a0, c0, a1, c1, a2, c2, a3, c3, rfl, q4⟩ := o2.read.form
  clear o2 q4
  obtain ⟨T, hT⟩ : ∃ T, rnT x x.length (rowAt x 0).length base = T := ⟨_, rfl⟩
  rw [hT] at O2 CR ⊢
  go_wp2_with fail
  refine (implCell_c _ T i' j' _ O2.out).mono ?_
  rw [CR.out.1, CR.out.2.1, CR.out.2.2]
  rintro e w3 ⟨rfl, u3⟩
  go_wp2
  go_ret3
  exact ⟨rfl, u2.trans u3⟩
end Go.Proofs.Ytjpomfdmgaambaa
namespace Go.Proofs.Ytjpomfdmgaambaa
open Go.RowKit

set_option maxHeartbeats 3200000 in
theorem lawRoundingRange_c (v0 : Value) (xs0 : List (List Int)) (a1 : Int) (a2 : Int) (a3 : Int) (w : World) (h0 : Grid w v0 xs0) (_ : WfG xs0) (i1 : -9223372036854775808 ≤ a1 ∧ a1 ≤ 9223372036854775807) (i2 : -9223372036854775808 ≤ a2 ∧ a2 ≤ 9223372036854775807) (i3 : -9223372036854775808 ≤ a3 ∧ a3 ≤ 9223372036854775807) :
    Calls Try.prog 5 #[v0, .int .i64 a1, .int .i64 a2, .int .i64 a3] w fun e w' => e = .returned (.bool true) ∧ Ext w w' := by
  have H0 := Lib.hid h0; clear h0
  have I1 := Lib.hid i1; clear i1
  have I2 := Lib.hid i2; clear i2
  have I3 := Lib.hid i3; clear i3
  have v0 := (Ext.refl w)
  obtain ⟨V0, hV0⟩ : ∃ V, rrLo xs0 a1 a2 a3 = V := ⟨_, rfl⟩
  have HV0 := Lib.hid hV0; clear hV0
  have qv0 : (V0 != V0) = false := by simp
  have qw0 : decide (V0 = V0) = true := by simp
  obtain ⟨V1, hV1⟩ : ∃ V, rrHi xs0 a1 a2 a3 = V := ⟨_, rfl⟩
  have HV1 := Lib.hid hV1; clear hV1
  have qv1 : (V1 != V1) = false := by simp
  have qw1 : decide (V1 = V1) = true := by simp
  obtain ⟨V2, hV2⟩ : ∃ V, rrB xs0 a1 a2 a3 = V := ⟨_, rfl⟩
  have HV2 := Lib.hid hV2; clear hV2
  have qv2 : (V2 != V2) = false := by simp
  go_enter Try.func5, Try.ntmps5
  obtain ⟨t0, ht0⟩ : ∃ t, szG 1048576 xs0 = t := ⟨_, rfl⟩
  have T0 := Lib.hid ht0; clear ht0
  go_wp2_with fail
  refine (szIntSS_c _ xs0 1048576 _ (H0.out.ext v0) (by omega)).mono ?_
  rw [T0.out]
  rintro e w' ⟨rfl, rfl⟩
  by_cases hz0 : t0 < 0
  · go_wp2
    go_ret
    exact ⟨rfl, v0⟩
  have tr0 : 0 ≤ t0 ∧ t0 ≤ 1048576 := by have h1 := T0.out; have h2 := szG_range (left := 1048576) (xss := xs0) (by omega); omega
  have S0 := Lib.hid (Small.of_szG (left := 1048576) (xss := xs0) (by omega) (by have h1 := T0.out; omega))
  go_wp2_with fail
  refine (toIntSS_c _ xs0 _ (H0.out.ext v0) S0.out.len S0.out.row).mono ?_
  rintro e w2 ⟨x2, r2, rfl, o2, u2⟩
  have v2 := v0.trans u2
  have SZ2 := Lib.hid u2.size
  have O2 := Lib.hid o2
  clear o2
  have RS_2 := Lib.hid u2.size
  go_wp2_with fail
  refine (specRr_c _ xs0 a1 a2 a3 _ O2.out.grid ).mono ?_
  rw [HV0.out]
  rw [HV1.out]
  rw [HV2.out]
  rintro e w3 ⟨rfl, u3⟩
  have v3 := v2.trans u3
  have SZ3 := Lib.hid u3.size
  go_wp2_with fail
  refine (toIntSS_c _ xs0 _ (H0.out.ext v3) S0.out.len S0.out.row).mono ?_
  rintro e w4 ⟨x4, r4, rfl, o4, u4⟩
  have v4 := v3.trans u4
  have SZ4 := Lib.hid u4.size
  have O4 := Lib.hid o4
  clear o4
  have RS_4 := Lib.hid u4.size
  go_wp2_with fail
  refine (implRr_c _ xs0 a1 a2 a3 _ O4.out.grid ).mono ?_
  rw [HV0.out]
  rw [HV1.out]
  rw [HV2.out]
  rintro e w5 ⟨rfl, u5⟩
  have v5 := v4.trans u5
  have SZ5 := Lib.hid u5.size
  go_wp2_with fail
  refine (toIntSS_c _ xs0 _ (H0.out.ext v5) S0.out.len S0.out.row).mono ?_
  rintro e w6 ⟨x6, r6, rfl, o6, u6⟩
  have v6 := v5.trans u6
  have SZ6 := Lib.hid u6.size
  have O6 := Lib.hid o6
  clear o6
  have RS_6 := Lib.hid u6.size
  go_wp2_with fail
  refine (eqIntSS_b true _ _ xs0 xs0 _ (by simp) ((O4.out.ext u5).ext u6).grid O6.out.grid).mono ?_
  rintro e w7 ⟨rfl, d7⟩
  have u7 := Drew.ext d7
  have v7 := v6.trans u7
  have SZ7 := Lib.hid u7.size
  go_wp2
  go_ret
  exact ⟨rfl, v7⟩
end Go.Proofs.Ytjpomfdmgaambaa
