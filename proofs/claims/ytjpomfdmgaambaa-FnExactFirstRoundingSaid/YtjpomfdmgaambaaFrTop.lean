/- FirstRounding, all of it above the network. -/
import Derived.Test.YtjpomfdmgaambaaRnP
import Derived.Test.YtjpomfdmgaambaaFirstP
import Derived.Test.YtjpomfdmgaambaaMapG
import Derived.Test.YtjpomfdmgaambaaMarg
import Derived.Test.YtjpomfdmgaambaaMix
import Derived.Test.YtjpomfdmgaambaaMat
import Derived.Test.YtjpomfdmgaambaaSz
import Derived.Test.YtjpomfdmgaambaaRnOd
import Derived.Test.YtjpomfdmgaambaaRnI
import Derived.Test.YtjpomfdmgaambaaOb
import Derived.Test.YtjpomfdmgaambaaRangeW
import Derived.Test.YtjpomfdmgaambaaAny
import Derived.Test.YtjpomfdmgaambaaSrange
import Derived.Deep.RegionHeld3
namespace Go.Proofs.Ytjpomfdmgaambaa
open Go.RowKit
open Fm

theorem up_mul {base v : Int} (hb : 2 ≤ base) : v ≤ base * upV base v ∧ base * upV base v ≤ v + base - 1 := by
  unfold upV
  have h1 := Int.mul_ediv_self_le (x := v + base - 1) (k := base) (by omega)
  have h2 := Int.lt_mul_ediv_self_add (x := v + base - 1) (k := base) (by omega)
  omega
theorem dn_mul {base v : Int} (hb : 2 ≤ base) : base * dnV base v ≤ v ∧ v < base * dnV base v + base := by
  unfold dnV
  have h1 := Int.mul_ediv_self_le (x := v) (k := base) (by omega)
  have h2 := Int.lt_mul_ediv_self_add (x := v) (k := base) (by omega)
  omega
theorem dn_le_up {base v : Int} (hb : 2 ≤ base) : dnV base v ≤ upV base v := by
  have h1 := dn_mul (v := v) hb
  have h2 := up_mul (v := v) hb
  refine Int.not_lt.1 fun h => ?_
  have h3 := Int.mul_le_mul_of_nonneg_left (a := upV base v + 1) (b := dnV base v) (c := base) (by omega) (by omega)
  rw [Int.mul_add, Int.mul_one] at h3
  omega
theorem up_sum {base : Int} (hb : 2 ≤ base) : ∀ xs : List Int, xs.sum ≤ base * (xs.map (upV base)).sum ∧ base * (xs.map (upV base)).sum ≤ xs.sum + xs.length * (base - 1)
  | [] => by simp
  | y :: xs => by
    have h1 := up_mul (v := y) hb
    have h2 := up_sum hb xs
    have e : (((y :: xs).length : Nat) : Int) * (base - 1) = xs.length * (base - 1) + (base - 1) := by rw [List.length_cons, Int.natCast_add, Int.natCast_one, Int.add_mul, Int.one_mul]
    rw [List.map_cons, List.sum_cons, List.sum_cons, Int.mul_add, e]
    omega
/-- the rounded parts exceed the whole, rounded down, by at most one each and one -/
theorem up_parts {base : Int} (hb : 2 ≤ base) (xs : List Int) : 0 ≤ (xs.map (upV base)).sum - dnV base xs.sum ∧ (xs.map (upV base)).sum - dnV base xs.sum ≤ xs.length + 1 := by
  have h1 := up_sum hb xs
  have h2 := dn_mul (v := xs.sum) hb
  constructor
  · refine Int.not_lt.1 fun h => ?_
    have h3 := Int.mul_le_mul_of_nonneg_left (a := (xs.map (upV base)).sum + 1) (b := dnV base xs.sum) (c := base) (by omega) (by omega)
    rw [Int.mul_add, Int.mul_one] at h3
    omega
  · refine Int.not_lt.1 fun h => ?_
    have h3 := Int.mul_le_mul_of_nonneg_left (a := dnV base xs.sum + (xs.length + 2)) (b := (xs.map (upV base)).sum) (c := base) (by omega) (by omega)
    have e1 : base * (dnV base xs.sum + ((xs.length : Int) + 2)) = base * dnV base xs.sum + (base * xs.length + base * 2) := by rw [Int.mul_add, Int.mul_add]
    have e2 : (xs.length : Int) * (base - 1) = base * xs.length - xs.length := by rw [Int.mul_sub, Int.mul_one, Int.mul_comm]
    rw [e1] at h3
    rw [e2] at h1
    omega
theorem sums_alike {x : List (List Int)} {m : Nat} (hM : MatOk x m) : (colS x m).sum = (rowS x).sum := by
  have hrc : Rc x.length m x := ⟨rfl, fun u hu => hM.row u hu⟩
  rw [sum_S, sum_S, colS_length, rowS_length]
  rw [S_congr (f := ix (colS x m)) (g := fun j => S x.length (fun i => elOf x i j)) (fun j hj => by rw [ix_colS hj, hrc.colsum]),
    S_congr (f := ix (rowS x)) (g := fun i => S m (fun j => elOf x i j)) (fun i hi => by rw [ix_rowS hi, hrc.rowsum hi])]
  exact (S_swap x.length m (elOf x)).symm
theorem sumsB_of {xs : List Int} (h1 : 1 ≤ xs.length) (h8 : xs.length ≤ 8) (h : ∀ k, k < xs.length → 0 ≤ ix xs k ∧ ix xs k ≤ 100000) : sumsB xs = true := by
  have ha : allIn 0 100000 xs = true := by
    unfold allIn
    exact all_true_of_ix fun j hj => by have := h j hj; simp; omega
  unfold sumsB
  rw [ha]; simp; omega
theorem shapeB_of {n m : Nat} {X : List (List Int)} (h1 : X.length = n) (h : ∀ k, k < n → (rowAt X k).length = m) : shapeB (n : Int) (m : Int) X = true := by
  unfold shapeB
  simp only [Bool.and_eq_true, decide_eq_true_eq]
  refine ⟨by omega, ?_⟩
  rw [rows_all]
  intro k hk
  have := h k (by omega)
  simp; omega

variable {x : List (List Int)} {n m : Nat} {base : Int}
theorem NetOf.ok {R C : List Int} {L H : List (List Int)} (N : NetOf x n m base R C L H) (hM : MatOk x m) (hE : ∀ k l, k < n → l < m → 0 ≤ ix (rowAt x k) l ∧ ix (rowAt x k) l ≤ 10000) (hn : x.length = n) (h8 : 1 ≤ n ∧ n ≤ 7 ∧ 1 ≤ m ∧ m ≤ 7) (hb2 : 2 ≤ base) (hb3 : base ≤ 100) : TrOk ⟨R, C, L, H⟩ := by
  have hA := all_bd hM hE hn
  have hU := up_parts hb2 (rowS x)
  have hW := up_parts hb2 (colS x m)
  rw [sums_alike hM, colS_length] at hW
  rw [rowS_length, hn] at hU
  refine ⟨sumsB_of ?_ ?_ ?_, sumsB_of ?_ ?_ ?_, ?_, ?_, ?_⟩
  · show 1 ≤ R.length; rw [N.r1]; omega
  · show R.length ≤ 8; rw [N.r1]; omega
  · intro k hk
    have hk : k < n + 1 := by rw [← N.r1]; exact hk
    by_cases e : k < n
    · have h1 := rowS_bd hM hE hn e
      have h2 := upV_bd h1.1 h1.2 hb2 hb3
      show 0 ≤ ix R k ∧ ix R k ≤ 100000
      rw [N.rw k e]; omega
    · have e : k = n := by omega
      subst e
      show 0 ≤ ix R k ∧ ix R k ≤ 100000
      rw [N.rwN]
      unfold upC
      omega
  · show 1 ≤ C.length; rw [N.c1]; omega
  · show C.length ≤ 8; rw [N.c1]; omega
  · intro k hk
    have hk : k < m + 1 := by rw [← N.c1]; exact hk
    by_cases e : k < m
    · have h1 := colS_bd hM hE hn e
      have h2 := upV_bd h1.1 h1.2 hb2 hb3
      show 0 ≤ ix C k ∧ ix C k ≤ 100000
      rw [N.cl k e]; omega
    · have e : k = m := by omega
      subst e
      show 0 ≤ ix C k ∧ ix C k ≤ 100000
      rw [N.clM]
      unfold upR
      omega
  · show shapeB (R.length : Int) (C.length : Int) L = true
    rw [N.r1, N.c1]; exact shapeB_of N.l1 N.ll
  · show shapeB (R.length : Int) (C.length : Int) H = true
    rw [N.r1, N.c1]; exact shapeB_of N.h1 N.hl
  · intro i hi j hj
    have hi : i < n + 1 := by rw [← N.l1]; exact hi
    have hj : j < m + 1 := by rw [← N.ll i hi]; exact hj
    show 0 ≤ ix (rowAt L i) j ∧ ix (rowAt L i) j ≤ ix (rowAt H i) j ∧ ix (rowAt H i) j ≤ 100000
    by_cases ei : i < n
    · by_cases ej : j < m
      · rw [N.lo i j ei ej, N.hi i j ei ej]
        have h1 := hE i j ei ej
        have h2 := upV_bd h1.1 h1.2 hb2 hb3
        have h3 := dnV_bd h1.1 h1.2 hb2
        have h4 := dn_le_up (v := ix (rowAt x i) j) hb2
        omega
      · have ej : j = m := by omega
        subst ej
        rw [N.loM i ei, N.hiM i ei]
        have h1 := rowS_bd hM hE hn ei
        have h2 := upV_bd h1.1 h1.2 hb2 hb3
        have h3 := dnV_bd h1.1 h1.2 hb2
        have h4 := dn_le_up (v := ix (rowS x) i) hb2
        omega
    · have ei : i = n := by omega
      subst ei
      rw [N.loN j hj]
      by_cases ej : j < m
      · rw [N.hiN j ej]
        have h1 := colS_bd hM hE hn ej
        have h2 := upV_bd h1.1 h1.2 hb2 hb3
        have h3 := dnV_bd h1.1 h1.2 hb2
        have h4 := dn_le_up (v := ix (colS x m) j) hb2
        omega
      · have ej : j = m := by omega
        subst ej
        rw [N.hiNM]
        have h1 := up_mul (v := (rowS x).sum) hb2
        have h2 := dn_mul (v := (rowS x).sum) hb2
        have h4 := dn_le_up (v := (rowS x).sum) hb2
        have h5 : base * (upV base (rowS x).sum - dnV base (rowS x).sum) < base * 2 := by rw [Int.mul_sub]; omega
        have h6 := Int.lt_of_mul_lt_mul_left h5 (by omega)
        omega
theorem rnT_ok (hM : MatOk x m) (hE : ∀ k l, k < n → l < m → 0 ≤ ix (rowAt x k) l ∧ ix (rowAt x k) l ≤ 10000) (hn : x.length = n) (h8 : 1 ≤ n ∧ n ≤ 7 ∧ 1 ≤ m ∧ m ≤ 7) (hb2 : 2 ≤ base) (hb3 : base ≤ 100) : TrOk (rnT x n m base) := by
  rw [rnT_eq]
  exact (netOf (x := x) (n := n) (m := m) (base := base)).ok hM hE hn h8 hb2 hb3

/-- where there is a flow there is a first one -/
theorem firstV_first {T : Tr} (h : TrOk T) (hf : feasB T = true) : FirstFrom T 0 (firstV T) := by
  have hc : 0 < T.cols.length := by have := h.dims; omega
  have key : ∀ q, q ≤ T.rows.length * T.cols.length → ∃ T', Fixed T T' q := by
    intro q
    induction q with
    | zero => intro _; exact ⟨T, Fixed.start h (feasB_true.1 hf)⟩
    | succ q ih =>
      intro hq
      obtain ⟨T', hT⟩ := ih (by omega)
      have e : q / T.cols.length * T.cols.length + q % T.cols.length = q := by rw [Nat.mul_comm]; exact Nat.div_add_mod q _
      have h1 : q / T.cols.length < T.rows.length := (Nat.div_lt_iff_lt_mul hc).2 (by omega)
      have h2 : q % T.cols.length < T.cols.length := Nat.mod_lt _ hc
      rw [← e] at hT ⊢
      exact ⟨_, hT.step h1 h2⟩
  obtain ⟨T', hT⟩ := key _ (Nat.le_refl _)
  have := hT.done (Nat.le_refl _)
  rw [this.eq]
  exact this
/-- the cells of the rounding of a flow: the inner ones, times the base -/
def frEl (F : List (List Int)) (base : Int) (i j : Nat) (_ : Int) : Int := ix (rowAt F i) j * base
def frC (F x : List (List Int)) (base : Int) : List (List Int) := mapG (frEl F base) x
/-- the first flow's shape and bounds -/
structure FlowFit (x : List (List Int)) (n m : Nat) (base : Int) (F : List (List Int)) : Prop where
  len : F.length = n + 1
  row : ∀ i, i < n + 1 → (rowAt F i).length = m + 1
  el : ∀ i j, i < n → j < m → 0 ≤ ix (rowAt F i) j ∧ ix (rowAt F i) j ≤ 10100
  mul : ∀ i j, i < n → j < m → 0 ≤ ix (rowAt F i) j * base ∧ ix (rowAt F i) j * base ≤ 10100
theorem flow_fit (hM : MatOk x m) (hE : ∀ k l, k < n → l < m → 0 ≤ ix (rowAt x k) l ∧ ix (rowAt x k) l ≤ 10000) (hn : x.length = n) (h8 : 1 ≤ n ∧ n ≤ 7 ∧ 1 ≤ m ∧ m ≤ 7) (hb2 : 2 ≤ base) (hb3 : base ≤ 100) (hf : feasB (rnT x n m base) = true) : FlowFit x n m base (firstV (rnT x n m base)) := by
  have ok := rnT_ok hM hE hn h8 hb2 hb3
  have N := netOf (x := x) (n := n) (m := m) (base := base)
  have hF := firstV_first ok hf
  have hl := hF.rc.len
  have hr := hF.rc.row
  rw [N.r1] at hl hr
  rw [N.c1] at hr
  have bd : ∀ i j, i < n → j < m → dnV base (ix (rowAt x i) j) ≤ ix (rowAt (firstV (rnT x n m base)) i) j ∧ ix (rowAt (firstV (rnT x n m base)) i) j ≤ upV base (ix (rowAt x i) j) := fun i j hi hj => by
    have h1 := hF.flow.lo i j (show i < (rnT x n m base).rows.length by rw [N.r1]; omega) (show j < (rnT x n m base).cols.length by rw [N.c1]; omega)
    have h2 := hF.flow.hi i j (show i < (rnT x n m base).rows.length by rw [N.r1]; omega) (show j < (rnT x n m base).cols.length by rw [N.c1]; omega)
    have e1 : (NetT (rnT x n m base)).Lo i j = dnV base (ix (rowAt x i) j) := N.lo i j hi hj
    have e2 : (NetT (rnT x n m base)).Hi i j = upV base (ix (rowAt x i) j) := N.hi i j hi hj
    rw [e1] at h1
    rw [e2] at h2
    exact ⟨h1, h2⟩
  refine ⟨hl, hr, fun i j hi hj => ?_, fun i j hi hj => ?_⟩
  · have h1 := hE i j hi hj
    have h2 := upV_bd h1.1 h1.2 hb2 hb3
    have h3 := dnV_bd h1.1 h1.2 hb2
    have h4 := bd i j hi hj
    omega
  · have h1 := hE i j hi hj
    have h3 := dnV_bd h1.1 h1.2 hb2
    have h4 := bd i j hi hj
    have h5 := up_mul (v := ix (rowAt x i) j) hb2
    have h6 := Int.mul_le_mul_of_nonneg_right h4.2 (show 0 ≤ base by omega)
    have h7 := Int.mul_nonneg (show 0 ≤ ix (rowAt (firstV (rnT x n m base)) i) j by omega) (show 0 ≤ base by omega)
    rw [Int.mul_comm (upV base _) base] at h6
    omega
theorem frC_matOk {F : List (List Int)} (hF : FlowFit x n m base F) (hM : MatOk x m) (hn : x.length = n) (h8 : 1 ≤ n ∧ n ≤ 7 ∧ 1 ≤ m ∧ m ≤ 7) : MatOk (frC F x base) m := by
  unfold frC
  refine ⟨by rw [mapG_length]; omega, by rw [mapG_length]; omega, by omega, by omega, fun k hk => ?_, fun k l hk hl => ?_⟩
  · rw [mapG_length] at hk
    rw [rowAt_mapG hk, rowF_length, hM.row k hk]
  · rw [mapG_length] at hk
    rw [rowAt_mapG hk, ix_rowF (by rw [hM.row k hk]; exact hl)]
    have := hF.mul k l (by omega) hl
    unfold frEl
    omega
/-- the rounding -/
noncomputable def frB (x : List (List Int)) (base : Int) : Bool := feasB (rnT x x.length (rowAt x 0).length base)
noncomputable def frD (x : List (List Int)) (base : Int) : Rd := margD (frC (firstV (rnT x x.length (rowAt x 0).length base)) x base) (rowAt x 0).length
end Go.Proofs.Ytjpomfdmgaambaa
namespace Go.Proofs.Ytjpomfdmgaambaa
open Go.RowKit
open Fm
theorem IRow.owns' {lo n : Nat} {w : World} {v : Value} {xs : List Int} (h : IRow lo w v xs) (hn : xs.length = n) : w.ownsRow lo 3 1 v n (xs.map (Value.int .i64)) := by
  subst hn; exact h

set_option maxRecDepth 100000 in
set_option maxHeartbeats 6400000 in
theorem oFrom_c (v : Value) (F x : List (List Int)) (n m : Nat) (base : Int) (w : World) (h : Grid w v F) (hF : FlowFit x n m base F) (hM : MatOk x m) (hn : x.length = n) (h8 : 1 ≤ n ∧ n ≤ 7 ∧ 1 ≤ m ∧ m ≤ 7) :
    Calls Try.prog 47 #[v, .int .i64 base] w fun e w' => ∃ v', e = .returned v' ∧ RdN w.heap.size w'.heap.size w' v' (margD (frC F x base) m) ∧ Ext w w' := by
  have HK := Lib.hid (frC_matOk hF hM hn h8)
  have HF := Lib.hid hF
  have HN := Lib.hid hn
  have HR := Lib.hid (fun k (hk : k < n) => hM.row k (by omega))
  clear hM
  obtain ⟨ax, cx, rfl, h1, h2, h3⟩ := h
  have G := Lib.hid h3; clear h3
  have hl := hF.len
  rw [hl] at h1 ⊢
  clear hl hF hn
  have wn : IntKind.i64.wrap (((n + 1 : Nat) : Int) - 1) = (n : Int) := by rw [IntWalk.i64_in _ (by omega)]; omega
  have wm : IntKind.i64.wrap (((m + 1 : Nat) : Int) - 1) = (m : Int) := by rw [IntWalk.i64_in _ (by omega)]; omega
  have wn2 : IntKind.i64.wrap ((n : Int) + 1 - 1) = (n : Int) := by rw [IntWalk.i64_in _ (by omega)]; omega
  have wm2 : IntKind.i64.wrap ((m : Int) + 1 - 1) = (m : Int) := by rw [IntWalk.i64_in _ (by omega)]; omega
  have hcx : n ≤ cx := by omega
  have hcx2 : (n : Int) ≤ (cx : Int) := by omega
  have u0 := (Ext.refl w).alloc (.cells #[.slice none 0 0, .slice none 0 0, .slice none 0 0, .int .i64 0] 44)
  have b0 := Box.new w 44 #[.slice none 0 0, .slice none 0 0, .slice none 0 0, .int .i64 0] rfl
  obtain ⟨wq, hwq⟩ : ∃ wq, wq = w.alloc (.cells #[.slice none 0 0, .slice none 0 0, .slice none 0 0, .int .i64 0] 44) := ⟨_, rfl⟩
  have szq : wq.heap.size = w.heap.size + 1 := by rw [hwq]; simp
  have HSQ := Lib.hid szq; clear szq
  rw [← hwq] at u0 b0
  have HB0 := Lib.hid b0; clear b0
  obtain ⟨b, o, rv, rfl, _, _⟩ := G.out 0 (by rw [HF.out.len]; omega)
  go_enter Try.func47, Try.ntmps47
  go_wp2_with fail
  rw [← hwq]
  have HWQ := Lib.hid hwq; clear hwq
  go_loopw [5, 17] (fun r i wr => ∃ (k : Nat) (rvs : List Value), k ≤ n ∧ i = .int .i64 k ∧ GRow wq.heap.size wr.heap.size wr r rvs ((frC F x base).take k) ∧ Ext wq wr) (fun _ i _ => n - (intOf i).toNat)
  case atStart => exact ⟨0, [], Nat.zero_le _, rfl, GRow.nil, Ext.refl wq⟩
  case round =>
    obtain ⟨k, rvs, hk, rfl, hg, hx⟩ := hrel
    obtain ⟨wo, rfl⟩ : ∃ wo : World, wo = wr := ⟨_, rfl⟩
    have HG := Lib.hid hg; clear hg
    by_cases hlt : k < n
    · obtain ⟨b', o', ar, cr, e9, hc, r1, r2, r3⟩ := (G.out.ext (u0.trans hx)).at_ (k := k) (by rw [HF.out.len]; omega)
      obtain ⟨rfl, rfl⟩ : b = b' ∧ o = o' := by simpa using e9
      clear e9
      rw [HF.out.row k (by omega)] at hc r1
      have R3 := Lib.hid r3; clear r3
      have hs := hx.size
      have hcr : m ≤ cr := by omega
      have hcr2 : (m : Int) ≤ (cr : Int) := by omega
      obtain ⟨bx, ox, rfl, _⟩ := R3.out 0 (by rw [HF.out.row k (by omega)]; omega)
      go_wp2_with fail
      go_loopw [8, 27] (fun r i wr => ∃ l : Nat, l ≤ m ∧ i = .int .i64 l ∧ IRow wo.heap.size wr r ((rowF (frEl F base) x k).take l) ∧ Ext wo wr) (fun _ i _ => m - (intOf i).toNat)
      case atStart => exact ⟨0, Nat.zero_le _, rfl, by simpa using IRow.nil, Ext.refl wo⟩
      case round =>
        obtain ⟨l, hl, rfl, hp, hxi⟩ := hrel
        obtain ⟨wi, rfl⟩ : ∃ wi : World, wi = wr := ⟨_, rfl⟩
        have hsi := hxi.size
        have HP := Lib.hid hp
        by_cases hl2 : l < m
        · obtain ⟨bx', ox', e9, hcx9⟩ := R3.out l (by rw [HF.out.row k (by omega)]; omega)
          obtain ⟨rfl, rfl⟩ : bx = bx' ∧ ox = ox' := by simpa using e9
          clear e9
          have ecx := Ext.cell hxi hcx9
          clear hcx9
          have hb1 := HF.out.el k l hlt hl2
          have hb2 := HF.out.mul k l hlt hl2
          have HEL := Lib.hid (show frEl F base k l (ix (rowAt x k) l) = ix (rowAt F k) l * base from rfl)
          have HTS := Lib.hid (rowF_take_succ (f := frEl F base) (xss := x) (i := k) (j := l) (by rw [HR.out k hlt]; exact hl2))
          have HTL := Lib.hid (show ((rowF (frEl F base) x k).take l).length = l by rw [List.length_take, rowF_length, HR.out k hlt]; omega)
          obtain ⟨X, hX⟩ : ∃ X, ix (rowAt F k) l = X := ⟨_, rfl⟩
          rw [hX] at ecx hb1 hb2 HEL
          clear hX
          obtain ⟨Y, hY⟩ : ∃ Y, X * base = Y := ⟨_, rfl⟩
          have wY : IntKind.i64.wrap (X * base) = Y := by rw [hY]; exact IntWalk.i64_in _ (by omega)
          rw [hY] at HEL
          clear hY hb2
          go_wp2_with (at_builtin; go_loud (refine app1 _ rfl _ _ 22 3 rfl (.int .i64 0) 8 Try.underlying22 info_int rfl wo.heap.size _ l _ rfl (((HP.out.ext ((Ext.refl _).alloc (.cells #[.int .i64 Y] 3))).owns' HTL.out)) wi.heap.size 1 3 (.int .i64 Y) rfl (Box.new _ _ _ rfl) rfl (by omega) (by omega) (by simp; omega) ?_))
          intro g cp w3 hown3 hgrow hat hlt3
          have h3 := HP.out.ext ((Ext.refl _).alloc (.cells #[.int .i64 Y] 3))
          have hx3 := h3.grew (hxi.alloc _) (by omega) hgrow
          have HO3 := Lib.hid hown3; clear hown3
          have HX3 := Lib.hid hx3; clear hx3
          clear hgrow
          go_wp2_with fail
          go_roundw
          case rel => exact ⟨l + 1, by omega, by go_num, by
            rw [HTS.out, HEL.out]
            exact IRow.push (by rw [HTL.out]; first | exact HO3.out | (rw [List.map_take]; exact HO3.out)), HX3.out⟩
          case measure => simp [intOf]; omega
        · have hfull : (rowF (frEl F base) x k).take l = rowF (frEl F base) x k := List.take_of_length_le (by rw [rowF_length, HR.out k hlt]; omega)
          rw [hfull] at hp
          clear HP hfull
          have O1 := Lib.hid (hp.own (Nat.le_refl _))
          obtain ⟨ap, cp0, rfl⟩ := hp.form
          clear hp
          have HKL := Lib.hid (show ((frC F x base).take k).length = k by unfold frC; rw [List.length_take, mapG_length, HN.out]; omega)
          have HTS := Lib.hid (show (frC F x base).take (k + 1) = (frC F x base).take k ++ [rowF (frEl F base) x k] from by unfold frC; exact mapG_take_succ (by rw [HN.out]; exact hlt))
          have hg3 := HG.out.ext (hxi.alloc (.cells #[.slice ap (rowF (frEl F base) x k).length cp0] 22))
          have HG3 := Lib.hid hg3
          have hown := hg3.own
          rw [HKL.out] at hown
          have HOWN := Lib.hid hown; clear hown hg3
          go_wp2_with (at_builtin; go_loud (refine app1 _ rfl _ _ 23 22 rfl (.slice none 0 0) 24 Try.underlying23 info_ints rfl wq.heap.size _ k rvs rfl HOWN.out wi.heap.size 1 22 (.slice ap (rowF (frEl F base) x k).length cp0) rfl (Box.new _ _ _ rfl) rfl (by omega) (by omega) (by simp; omega) ?_))
          intro g cp w3 hown3 hgrow hat hlt3
          have hx3 := HG3.out.grew ((hx.trans hxi).alloc _) (Nat.le_refl _) hgrow
          have hs3 := hgrow.size
          have hO1 := O1.out.ext ((Ext.refl wi).alloc (.cells #[.slice ap (rowF (frEl F base) x k).length cp0] 22))
          have hp3 := HG3.out.push (hi' := w3.heap.size) hs ((hO1.mono (Nat.le_refl _) (by simp)).mono (Nat.le_refl _) hs3) (by simp at hs3; omega) hgrow (by rw [HKL.out]; exact hown3)
          have HP3 := Lib.hid hp3; clear hp3 hO1
          have HX3 := Lib.hid hx3; clear hx3 hgrow hown3 hat
          go_wp2_with fail
          go_roundw
          case rel => exact ⟨k + 1, _, by omega, by go_num, by rw [HTS.out]; exact HP3.out, HX3.out⟩
          case measure => simp [intOf]; omega
    · have hfull : (frC F x base).take k = frC F x base := List.take_of_length_le (by unfold frC; rw [mapG_length, HN.out]; omega)
      have hg := HG.out
      rw [hfull] at hg
      clear HG hfull
      have O1 := Lib.hid (hg.ownG (Nat.le_refl _) (Nat.le_refl _)); clear hg
      have br := HB0.out.ext hx
      go_wp2_with fail
      refine (oMargins_c _ (frC F x base) m _ O1.out.grid HK.out).mono ?_
      rintro e w3 ⟨v3, rfl, o3, u3⟩
      have O3 := Lib.hid o3
      obtain ⟨a0, c0, a1, c1, a2, c2, rfl, q4⟩ := o3.read.form
      clear o3 q4
      have b3 := br.ext u3
      have f0 := b3.free 0
      have f1 := b3.free 1
      have f2 := b3.free 2
      have f3 := b3.free 3
      have k0 := b3.cell 0 (by simp)
      have k1 := b3.cell 1 (by simp)
      have k2 := b3.cell 2 (by simp)
      have k3 := b3.cell 3 (by simp)
      have hsz := hx.size
      obtain ⟨D, hD⟩ : ∃ D, margD (frC F x base) m = D := ⟨_, rfl⟩
      rw [hD] at O3 ⊢
      have HDD := Lib.hid hD; clear hD
      go_wp2
      refine bodyPost_ret (v := .agg #[.slice a0 D.cells.length c0, .slice a1 D.rows.length c1, .slice a2 D.cols.length c2, .int .i64 D.total]) (by simp [results, Try.results47, go_sem, k0, k1, k2, k3]) rfl ⟨_, rfl, ?_, ((u0.trans hx).trans u3).put4 (Nat.le_refl _) _ _ _ _⟩
      rw [HDD.out]
      have hs := put4_size w3 w.heap.size (.slice a0 D.cells.length c0) (.slice a1 D.rows.length c1) (.slice a2 D.cols.length c2) (.int .i64 D.total)
      have hlt : w.heap.size < wo.heap.size := by have := HSQ.out; omega
      exact (O3.out.away (Upd.put4 (Upd.refl w3) rfl _ _ _ _) (fun b hb => .inl (by subst hb; exact hlt))).mono (Nat.le_of_lt hlt) (Nat.le_of_eq hs.symm)
set_option maxRecDepth 100000 in
set_option maxHeartbeats 6400000 in
theorem roundingOf_c (v1 v2 : Value) (F x : List (List Int)) (n m : Nat) (base : Int) (w : World) (h1 : Grid w v1 x) (h2 : Grid w v2 F) (hF : FlowFit x n m base F) (hM : MatOk x m) (hn : x.length = n) (h8 : 1 ≤ n ∧ n ≤ 7 ∧ 1 ≤ m ∧ m ≤ 7) :
    Calls Try.prog 49 #[v1, .int .i64 base, v2] w fun e w' => ∃ v', e = .returned v' ∧ RdO w.heap.size w'.heap.size w' v' (margD (frC F x base) m) ∧ Ext w w' := by
  have HK := Lib.hid (frC_matOk hF hM hn h8)
  have HF := Lib.hid hF
  have HN := Lib.hid hn
  have HR := Lib.hid (fun k (hk : k < n) => hM.row k (by omega))
  clear hM
  have H1 := Lib.hid h1; clear h1
  obtain ⟨ax, cx, rfl, q1, q2, q3⟩ := h2
  have GF := Lib.hid q3; clear q3
  have hl := hF.len
  rw [hl] at q1 ⊢
  clear hl hF hn
  have u0 := (Ext.refl w).alloc (.cells #[.slice none 0 0, .slice none 0 0, .slice none 0 0, .int .i64 0] 44)
  have b0 := Box.new w 44 #[.slice none 0 0, .slice none 0 0, .slice none 0 0, .int .i64 0] rfl
  obtain ⟨wq, hwq⟩ : ∃ wq, wq = w.alloc (.cells #[.slice none 0 0, .slice none 0 0, .slice none 0 0, .int .i64 0] 44) := ⟨_, rfl⟩
  have szq : wq.heap.size = w.heap.size + 1 := by rw [hwq]; simp
  have HSQ := Lib.hid szq; clear szq
  rw [← hwq] at u0 b0
  have HB0 := Lib.hid b0; clear b0
  go_enter Try.func49, Try.ntmps49
  go_wp2_with fail
  rw [← hwq]
  have HWQ := Lib.hid hwq; clear hwq
  refine (copyMatrix_c _ x wq (H1.out.ext u0) (by have := HN.out; omega) (fun k hk => by rw [HR.out k (by rw [← HN.out]; exact hk)]; omega) (fun k hk e => by have := HR.out k (by rw [← HN.out]; exact hk); rw [e] at this; simp at this; omega)).mono ?_
  rintro e w1 ⟨v', rvs, rfl, og, WX⟩
  obtain ⟨ao, cap, rfl, q4, q5, q6⟩ := og
  have GA := Lib.hid q6; clear q6
  rw [HN.out] at q4 ⊢
  have hs1 := WX.size
  go_wp2_with fail
  go_loopw [15] (fun i wr => ∃ (k : Nat) (zs : List (List Int)), k ≤ n ∧ i = .int .i64 k ∧ OwnGA wq.heap.size w1.heap.size wr ao rvs zs ∧ Mix (frEl F base) x zs k 0 ∧ w1.heap.size ≤ wr.heap.size ∧ Ext wq wr) (fun i _ => n - (intOf i).toNat)
  case atStart => exact ⟨0, x, Nat.zero_le _, rfl, GA.out, Mix.start, Nat.le_refl _, WX⟩
  case round =>
    obtain ⟨k, zs, hk, rfl, hg, hm, hsz, hx⟩ := hrel
    obtain ⟨wo, rfl⟩ : ∃ wo : World, wo = wr := ⟨_, rfl⟩
    have HM := Lib.hid hm; clear hm
    have HG := Lib.hid hg; clear hg
    by_cases hlt : k < n
    · have hltx : k < x.length := by rw [HN.out]; exact hlt
      have hz : k < zs.length := by rw [HM.out.len]; exact hltx
      obtain ⟨b, o, rfl, lb, lb2, lb3, hc, hf⟩ := HG.out.at_ hz
      obtain ⟨ar, cr, ev, r1, r2⟩ := HG.out.rowForm hz
      rw [HM.out.row k hltx, HR.out k hlt] at ev r1
      rw [ev] at hc
      have EV := Lib.hid ev; clear ev
      have HZ := Lib.hid hz; clear hz
      have HLX := Lib.hid hltx; clear hltx
      obtain ⟨bf, of, ar2, cr2, rfl, hcf, p1, p2, p3⟩ := GF.out.at_ (k := k) (by rw [HF.out.len]; omega)
      rw [HF.out.row k (by omega)] at hcf p1
      have P3 := Lib.hid p3; clear p3
      go_wp2_with fail
      go_loopw [22] (fun i wr' => ∃ (l : Nat) (zs' : List (List Int)), l ≤ m ∧ i = .int .i64 l ∧ OwnGA wq.heap.size w1.heap.size wr' (some ⟨b, o, none⟩) rvs zs' ∧ Mix (frEl F base) x zs' k l ∧ w1.heap.size ≤ wr'.heap.size ∧ Ext wq wr') (fun i _ => m - (intOf i).toNat)
      case atStart => exact ⟨0, zs, Nat.zero_le _, rfl, HG.out, HM.out, hsz, hx⟩
      case round =>
        obtain ⟨l, zs', hl, rfl, hg', hm', hsz', hx'⟩ := hrel
        obtain ⟨wi, rfl⟩ : ∃ wi : World, wi = wr := ⟨_, rfl⟩
        have HM' := Lib.hid hm'; clear hm'
        have HG' := Lib.hid hg'; clear hg'
        clear hc hf
        by_cases hl2 : l < m
        · have hl2x : l < (rowAt x k).length := by rw [HR.out k hlt]; exact hl2
          have hz' : k < zs'.length := by rw [HM'.out.len]; exact HLX.out
          have hrl : l < (rowAt zs' k).length := by rw [HM'.out.row k HLX.out]; exact hl2x
          obtain ⟨b2, o2, rfl, l1, l2, l3, hc2, hf2, st⟩ := HG'.out.store hz' hrl EV.out
          have ST := Lib.hid st; clear st
          have HZ' := Lib.hid hz'; clear hz' hrl
          have HL2X := Lib.hid hl2x; clear hl2x
          obtain ⟨bx, ox, rfl, hcx0⟩ := P3.out l (by rw [HF.out.row k (by omega)]; omega)
          have hcx := Ext.cell (u0.trans hx') hcx0
          have hcf' := Ext.cell (u0.trans hx') hcf
          clear hcx0
          have hb1 := HF.out.el k l hlt hl2
          have hb2 := HF.out.mul k l hlt hl2
          have HEL := Lib.hid (show frEl F base k l (ix (rowAt x k) l) = ix (rowAt F k) l * base from rfl)
          obtain ⟨X, hX⟩ : ∃ X, ix (rowAt F k) l = X := ⟨_, rfl⟩
          rw [hX] at hcx hb1 hb2 HEL
          clear hX
          obtain ⟨Y, hY⟩ : ∃ Y, X * base = Y := ⟨_, rfl⟩
          have wY : IntKind.i64.wrap (X * base) = Y := by rw [hY]; exact IntWalk.i64_in _ (by omega)
          rw [hY] at HEL
          clear hY hb2
          have hkf : (k : Int) < (n : Int) + 1 := by omega
          have hlf : (l : Int) < (m : Int) + 1 := by omega
          go_wp2_with fail
          go_roundw
          case rel => exact ⟨l + 1, _, by omega, by go_num, ST.out Y, HM'.out.step HLX.out HL2X.out (by rw [HEL.out]), by simp [World.setCell]; exact hsz', hx'.setCell _ (by simp; omega)⟩
          case measure => simp [intOf]; omega
        · go_wp2_with fail
          go_roundw
          case rel => exact ⟨k + 1, zs', by omega, by go_num, HG'.out, HM'.out.next (by rw [HR.out k hlt]; omega), hsz', hx'⟩
          case measure => simp [intOf]; omega
    · have hkk := HM.out.done (by rw [HN.out]; omega)
      subst hkk
      have O1 := Lib.hid (show OwnG wq.heap.size wo.heap.size wo (.slice ao n cap) rvs (mapG (frEl F base) x) from ⟨ao, cap, by rw [mapG_length, HN.out], by rw [mapG_length, HN.out]; exact q4, q5, HG.out.mono (Nat.le_refl _) hsz⟩)
      have br := HB0.out.ext hx
      go_wp2_with fail
      refine (summed_c _ (frC F x base) m _ O1.out.grid HK.out).mono ?_
      rintro e w3 ⟨v3, rfl, o3, u3⟩
      have O3 := Lib.hid o3
      obtain ⟨a0, c0, a1, c1, a2, c2, rfl, q7⟩ := o3.read.form
      clear o3 q7
      have b3 := br.ext u3
      have f0 := b3.free 0
      have f1 := b3.free 1
      have f2 := b3.free 2
      have f3 := b3.free 3
      have k0 := b3.cell 0 (by simp)
      have k1 := b3.cell 1 (by simp)
      have k2 := b3.cell 2 (by simp)
      have k3 := b3.cell 3 (by simp)
      have hsz9 := hx.size
      obtain ⟨D, hD⟩ : ∃ D, margD (frC F x base) m = D := ⟨_, rfl⟩
      rw [hD] at O3 ⊢
      have HDD := Lib.hid hD; clear hD
      go_wp2
      refine bodyPost_ret (v := .agg #[.slice a0 D.cells.length c0, .slice a1 D.rows.length c1, .slice a2 D.cols.length c2, .int .i64 D.total]) (by simp [results, Try.results49, go_sem, k0, k1, k2, k3]) rfl ⟨_, rfl, ?_, ((u0.trans hx).trans u3).put4 (Nat.le_refl _) _ _ _ _⟩
      rw [HDD.out]
      have hs := put4_size w3 w.heap.size (.slice a0 D.cells.length c0) (.slice a1 D.rows.length c1) (.slice a2 D.cols.length c2) (.int .i64 D.total)
      have hlt : w.heap.size < wo.heap.size := by have := HSQ.out; omega
      exact (O3.out.away (Upd.put4 (Upd.refl w3) rfl _ _ _ _) (fun b hb => .inl (by subst hb; exact hlt))).mono (Nat.le_of_lt hlt) (Nat.le_of_eq hs.symm)
end Go.Proofs.Ytjpomfdmgaambaa
namespace Go.Proofs.Ytjpomfdmgaambaa
open Go.RowKit
theorem rgOf {lo hi : Nat} {w w' : World} (_ : Upd (fun b => lo ≤ b ∧ b < hi) w w') : ∀ b, (lo ≤ b ∧ b < hi) → lo ≤ b ∧ b < hi := fun _ hb => hb
theorem sum_len_le {b : Nat} {xss : List (List Int)} (h : ∀ r ∈ xss, r.length ≤ b) : (xss.map List.length).sum ≤ b * xss.length := by
  induction xss with
  | nil => simp
  | cons r rs ih =>
    have h1 := h r (by simp)
    have h2 := ih (fun q hq => h q (by simp [hq]))
    simp only [List.map_cons, List.sum_cons, List.length_cons]
    rw [Nat.mul_add]; omega
theorem Small.of_rows8 {xss : List (List Int)} (h1 : xss.length ≤ 8) (h2 : ∀ k, k < xss.length → (rowAt xss k).length ≤ 8) : Small xss := by
  have h3 := sum_len_le (b := 8) (xss := xss) (fun r hr => by
    obtain ⟨i, hi, rfl⟩ := List.getElem_of_mem hr
    have := h2 i hi; rwa [rowAt_eq hi] at this)
  exact Small.of_bound (by omega)
end Go.Proofs.Ytjpomfdmgaambaa
namespace Go.Proofs.Ytjpomfdmgaambaa
open Go.RowKit
def rnB (x : List (List Int)) (base : Int) : Bool := gridB 7 10000 x && (decide (2 ≤ base) && decide (base ≤ 100))
def rnNV (x : List (List Int)) (base : Int) : Tr := if rnB x base = true then rnT x x.length (rowAt x 0).length base else ⟨[], [], [], []⟩
theorem rn_matOk {x : List (List Int)} (h : gridB 7 10000 x = true) : MatOk x (rowAt x 0).length := by
  have g := gridB_true.1 h
  refine ⟨g.1, by omega, g.2.2.1, by omega, fun k hk => (g.2.2.2.2 k hk).1, fun k l hk hl => ?_⟩
  have := gridB_elem h hk (j := l) (by rw [(g.2.2.2.2 k hk).1]; exact hl)
  omega
theorem rn_el {x : List (List Int)} (h : gridB 7 10000 x = true) : ∀ k l, k < x.length → l < (rowAt x 0).length → 0 ≤ ix (rowAt x k) l ∧ ix (rowAt x k) l ≤ 10000 := fun k l hk hl =>
  gridB_elem h hk (j := l) (by have g := gridB_true.1 h; rw [(g.2.2.2.2 k hk).1]; exact hl)
theorem rn_dim {x : List (List Int)} (h : gridB 7 10000 x = true) : 1 ≤ x.length ∧ x.length ≤ 7 ∧ 1 ≤ (rowAt x 0).length ∧ (rowAt x 0).length ≤ 7 := by
  have g := gridB_true.1 h
  exact ⟨g.1, g.2.1, g.2.2.1, g.2.2.2.1⟩
theorem rn_nIB {v : Value} {b : Nat} (h : IB v [] b) : False := h.1 rfl
theorem rn_nGB {v : Value} {r : List Value} {b : Nat} (h : GB v r [] b) : False := by
  rcases h with h | ⟨k, hk, _⟩
  · exact h.1 rfl
  · simp at hk
theorem rnNV_small (x : List (List Int)) (base : Int) : TrSmall (rnNV x base) := by
  unfold rnNV
  split
  · rename_i h
    have g := rn_dim (x := x) (by unfold rnB at h; simp only [Bool.and_eq_true] at h; exact h.1)
    have N := netOf (x := x) (n := x.length) (m := (rowAt x 0).length) (base := base)
    exact ⟨by rw [N.r1]; omega, by rw [N.c1]; omega, Small.of_rows8 (by rw [N.l1]; omega) (fun k hk => by rw [N.ll k (by rw [N.l1] at hk; exact hk)]; omega), Small.of_rows8 (by rw [N.h1]; omega) (fun k hk => by rw [N.hl k (by rw [N.h1] at hk; exact hk)]; omega)⟩
  · exact ⟨by simp, by simp, Small.of_rows8 (by simp) (fun k hk => by simp at hk), Small.of_rows8 (by simp) (fun k hk => by simp at hk)⟩

set_option maxRecDepth 100000 in
set_option maxHeartbeats 3200000 in
theorem specRn_c (v1 : Value) (x : List (List Int)) (base : Int) (w : World) (h1 : Grid w v1 x) :
    Calls Try.prog 18 #[v1, .int .i64 base] w fun e w' => ∃ v', e = .returned (.tuple #[v', .bool (rnB x base)]) ∧ TrN w.heap.size w'.heap.size w' v' (rnNV x base) ∧ Ext w w' := by
  have H1 := Lib.hid h1; clear h1
  have u0 := (Ext.refl w).alloc (.cells #[.slice none 0 0, .slice none 0 0, .slice none 0 0, .slice none 0 0] 30)
  have b0 := Box.new w 30 #[.slice none 0 0, .slice none 0 0, .slice none 0 0, .slice none 0 0] rfl
  have nothing : ∀ (w' : World), Ext w w' → TrN w.heap.size w'.heap.size w' (.agg #[.slice none 0 0, .slice none 0 0, .slice none 0 0, .slice none 0 0]) ⟨[], [], [], []⟩ := fun w' _ => ⟨_, _, _, _, [], [], rfl, Own.nil, Own.nil, OwnG.nil, OwnG.nil⟩
  cases hg : rnB x base
  · have hV : rnNV x base = ⟨[], [], [], []⟩ := by simp [rnNV, hg]
    rw [hV]; clear hV
    have HG := Lib.hid (show (gridB 7 10000 x && (decide (2 ≤ base) && decide (base ≤ 100))) = false from hg); clear hg
    go_enter Try.func18, Try.ntmps18
    go_wp2_with fail
    refine (oGood_b false _ x base _ HG.out (H1.out.ext u0)).mono ?_
    rintro e w' ⟨rfl, rfl⟩
    have f0 := b0.free 0
    have f1 := b0.free 1
    have f2 := b0.free 2
    have f3 := b0.free 3
    have k0 := b0.cell 0 (by simp)
    have k1 := b0.cell 1 (by simp)
    have k2 := b0.cell 2 (by simp)
    have k3 := b0.cell 3 (by simp)
    go_wp2
    refine bodyPost_ret (v := .tuple #[.agg #[.slice none 0 0, .slice none 0 0, .slice none 0 0, .slice none 0 0], .bool false]) (by simp [results, Try.results18, go_sem, k0, k1, k2, k3]) rfl ⟨_, rfl, nothing _ ?_, ?_⟩
    · first | exact u0 | exact u0.put4 (Nat.le_refl _) _ _ _ _
    · first | exact u0 | exact u0.put4 (Nat.le_refl _) _ _ _ _
  · have HVT := Lib.hid (show rnNV x base = rnT x x.length (rowAt x 0).length base by simp [rnNV, hg])
    have HG := Lib.hid (show (gridB 7 10000 x && (decide (2 ≤ base) && decide (base ≤ 100))) = true from hg); clear hg
    have hg := HG.out
    simp only [Bool.and_eq_true, decide_eq_true_eq] at hg
    have HX := Lib.hid hg.1
    have hbs := hg.2
    clear hg
    go_enter Try.func18, Try.ntmps18
    go_wp2_with fail
    refine (oGood_b true _ x base _ HG.out (H1.out.ext u0)).mono ?_
    rintro e w' ⟨rfl, rfl⟩
    go_wp2_with fail
    refine (oNetwork_c _ x x.length (rowAt x 0).length base _ (H1.out.ext u0) rfl (rn_matOk HX.out) (rn_el HX.out) (rn_dim HX.out) hbs.1 hbs.2).mono ?_
    rintro e w2 ⟨v2, rfl, o2, u2⟩
    have O2 := Lib.hid o2
    obtain ⟨a0, c0, a1, c1, a2, c2, a3, c3, rfl, _⟩ := o2.read.form
    clear o2
    have b2 := b0.ext u2
    have f0 := b2.free 0
    have f1 := b2.free 1
    have f2 := b2.free 2
    have f3 := b2.free 3
    have k0 := b2.cell 0 (by simp)
    have k1 := b2.cell 1 (by simp)
    have k2 := b2.cell 2 (by simp)
    have k3 := b2.cell 3 (by simp)
    obtain ⟨T, hT⟩ : ∃ T, rnT x x.length (rowAt x 0).length base = T := ⟨_, rfl⟩
    rw [hT] at O2 HVT ⊢
    clear hT
    go_wp2
    refine bodyPost_ret (v := .tuple #[.agg #[.slice a0 T.rows.length c0, .slice a1 T.cols.length c1, .slice a2 T.lo.length c2, .slice a3 T.hi.length c3], .bool true]) (by simp [results, Try.results18, go_sem, k0, k1, k2, k3]) rfl ⟨_, rfl, ?_, (u0.trans u2).put4 (Nat.le_refl _) _ _ _ _⟩
    have hs := put4_size w2 w.heap.size (.slice a0 T.rows.length c0) (.slice a1 T.cols.length c1) (.slice a2 T.lo.length c2) (.slice a3 T.hi.length c3)
    have hlt : w.heap.size < (w.alloc (.cells #[.slice none 0 0, .slice none 0 0, .slice none 0 0, .slice none 0 0] 30)).heap.size := by simp
    rw [HVT.out]
    exact (O2.out.away (Upd.put4 (Upd.refl w2) rfl _ _ _ _) (fun b hb => .inl (by subst hb; exact hlt))).mono (Nat.le_of_lt hlt) (Nat.le_of_eq hs.symm)

set_option maxRecDepth 100000 in
set_option maxHeartbeats 3200000 in
theorem implRn_c (v1 : Value) (x : List (List Int)) (base : Int) (w : World) (h1 : Grid w v1 x) :
    Calls Try.prog 19 #[v1, .int .i64 base] w fun e w' => ∃ v', e = .returned (.tuple #[v', .bool (rnB x base)]) ∧ TrO w.heap.size w'.heap.size w' v' (rnNV x base) ∧ Ext w w' := by
  have H1 := Lib.hid h1; clear h1
  have u0 := (Ext.refl w).alloc (.cells #[.slice none 0 0, .slice none 0 0, .slice none 0 0, .slice none 0 0] 30)
  have b0 := Box.new w 30 #[.slice none 0 0, .slice none 0 0, .slice none 0 0, .slice none 0 0] rfl
  have nothing : ∀ (w' : World), Ext w w' → TrO w.heap.size w'.heap.size w' (.agg #[.slice none 0 0, .slice none 0 0, .slice none 0 0, .slice none 0 0]) ⟨[], [], [], []⟩ := fun w' _ => ⟨_, _, _, _, [], [], rfl, Own.nil, Own.nil, OwnG.nil, OwnG.nil, fun b h _ => rn_nIB h, fun b h _ => rn_nIB h, fun b h _ => rn_nIB h, fun b h _ => rn_nIB h, fun b h _ => rn_nIB h, fun b h _ => rn_nGB h⟩
  cases hx : gridB 7 10000 x
  · have hg : rnB x base = false := by unfold rnB; rw [hx]; rfl
    have hV : rnNV x base = ⟨[], [], [], []⟩ := by simp [rnNV, hg]
    rw [hV, hg]; clear hV hg
    have HX := Lib.hid hx; clear hx
    go_enter Try.func19, Try.ntmps19
    go_wp2_with fail
    refine (isMatrix_b false _ x _ HX.out (H1.out.ext u0)).mono ?_
    rintro e w' ⟨rfl, rfl⟩
    have f0 := b0.free 0
    have f1 := b0.free 1
    have f2 := b0.free 2
    have f3 := b0.free 3
    have k0 := b0.cell 0 (by simp)
    have k1 := b0.cell 1 (by simp)
    have k2 := b0.cell 2 (by simp)
    have k3 := b0.cell 3 (by simp)
    go_wp2
    refine bodyPost_ret (v := .tuple #[.agg #[.slice none 0 0, .slice none 0 0, .slice none 0 0, .slice none 0 0], .bool false]) (by simp [results, Try.results19, go_sem, k0, k1, k2, k3]) rfl ⟨_, rfl, nothing _ ?_, ?_⟩
    · first | exact u0 | exact u0.put4 (Nat.le_refl _) _ _ _ _
    · first | exact u0 | exact u0.put4 (Nat.le_refl _) _ _ _ _
  cases hbb : (decide (2 ≤ base) && decide (base ≤ 100))
  · have hg : rnB x base = false := by unfold rnB; rw [hx, hbb]; rfl
    have hV : rnNV x base = ⟨[], [], [], []⟩ := by simp [rnNV, hg]
    rw [hV, hg]; clear hV hg
    have HX := Lib.hid hx; clear hx
    have HBB := Lib.hid hbb; clear hbb
    go_enter Try.func19, Try.ntmps19
    go_wp2_with fail
    refine (isMatrix_b true _ x _ HX.out (H1.out.ext u0)).mono ?_
    rintro e w' ⟨rfl, rfl⟩
    go_wp2_with fail
    refine (isBaseOf_b false base _ HBB.out).mono ?_
    rintro e w' ⟨rfl, rfl⟩
    have f0 := b0.free 0
    have f1 := b0.free 1
    have f2 := b0.free 2
    have f3 := b0.free 3
    have k0 := b0.cell 0 (by simp)
    have k1 := b0.cell 1 (by simp)
    have k2 := b0.cell 2 (by simp)
    have k3 := b0.cell 3 (by simp)
    go_wp2
    refine bodyPost_ret (v := .tuple #[.agg #[.slice none 0 0, .slice none 0 0, .slice none 0 0, .slice none 0 0], .bool false]) (by simp [results, Try.results19, go_sem, k0, k1, k2, k3]) rfl ⟨_, rfl, nothing _ ?_, ?_⟩
    · first | exact u0 | exact u0.put4 (Nat.le_refl _) _ _ _ _
    · first | exact u0 | exact u0.put4 (Nat.le_refl _) _ _ _ _
  have hg : rnB x base = true := by unfold rnB; rw [hx, hbb]; rfl
  have HVT := Lib.hid (show rnNV x base = rnT x x.length (rowAt x 0).length base by simp [rnNV, hg])
  rw [hg]; clear hg
  have hbs : 2 ≤ base ∧ base ≤ 100 := by simpa using hbb
  have HX := Lib.hid hx; clear hx
  have HBB := Lib.hid hbb; clear hbb
  go_enter Try.func19, Try.ntmps19
  go_wp2_with fail
  refine (isMatrix_b true _ x _ HX.out (H1.out.ext u0)).mono ?_
  rintro e w' ⟨rfl, rfl⟩
  go_wp2_with fail
  refine (isBaseOf_b true base _ HBB.out).mono ?_
  rintro e w' ⟨rfl, rfl⟩
  go_wp2_with fail
  refine (roundingNetwork_c _ x x.length (rowAt x 0).length base _ (H1.out.ext u0) rfl (rn_matOk HX.out) (rn_el HX.out) (rn_dim HX.out) hbs.1 hbs.2).mono ?_
  rintro e w2 ⟨v2, rfl, o2, u2⟩
  have O2 := Lib.hid o2
  obtain ⟨a0, c0, a1, c1, a2, c2, a3, c3, rfl, _⟩ := o2.read.form
  clear o2
  have b2 := b0.ext u2
  have f0 := b2.free 0
  have f1 := b2.free 1
  have f2 := b2.free 2
  have f3 := b2.free 3
  have k0 := b2.cell 0 (by simp)
  have k1 := b2.cell 1 (by simp)
  have k2 := b2.cell 2 (by simp)
  have k3 := b2.cell 3 (by simp)
  obtain ⟨T, hT⟩ : ∃ T, rnT x x.length (rowAt x 0).length base = T := ⟨_, rfl⟩
  rw [hT] at O2 HVT ⊢
  clear hT
  go_wp2
  refine bodyPost_ret (v := .tuple #[.agg #[.slice a0 T.rows.length c0, .slice a1 T.cols.length c1, .slice a2 T.lo.length c2, .slice a3 T.hi.length c3], .bool true]) (by simp [results, Try.results19, go_sem, k0, k1, k2, k3]) rfl ⟨_, rfl, ?_, (u0.trans u2).put4 (Nat.le_refl _) _ _ _ _⟩
  have hs := put4_size w2 w.heap.size (.slice a0 T.rows.length c0) (.slice a1 T.cols.length c1) (.slice a2 T.lo.length c2) (.slice a3 T.hi.length c3)
  have hlt : w.heap.size < (w.alloc (.cells #[.slice none 0 0, .slice none 0 0, .slice none 0 0, .slice none 0 0] 30)).heap.size := by simp
  rw [HVT.out]
  exact (O2.out.away (Upd.put4 (Upd.refl w2) rfl _ _ _ _) (fun b hb => .inl (by subst hb; exact hlt))).mono (Nat.le_of_lt hlt) (Nat.le_of_eq hs.symm)
end Go.Proofs.Ytjpomfdmgaambaa
namespace Go.Proofs.Ytjpomfdmgaambaa
open Go.RowKit
open Fm

theorem flow_congr {T : Tr} {x y : Nat → Nat → Int} (h : Flow (NetT T) y) (e : ∀ i j, i < T.rows.length → j < T.cols.length → x i j = y i j) : Flow (NetT T) x :=
  ⟨fun i j hi hj => by rw [e i j hi hj]; exact h.lo i j hi hj, fun i j hi hj => by rw [e i j hi hj]; exact h.hi i j hi hj, fun i hi => (S_congr (fun j hj => e i j hi hj)).trans (h.row i hi), fun j hj => (S_congr (fun i hi => e i j hi hj)).trans (h.col j hj)⟩
theorem pastB_true {m p i j : Nat} : pastB m (p : Int) i j = true ↔ p < i * m + j := by
  unfold pastB
  rw [decide_eq_true_eq]
  constructor
  · intro h; have : (p : Int) < ((i * m + j : Nat) : Int) := by push_cast; exact h
    omega
  · intro h; have : (p : Int) < ((i * m + j : Nat) : Int) := by omega
    push_cast at this; exact this
theorem pastB_false {m p i j : Nat} : pastB m (p : Int) i j = false ↔ i * m + j ≤ p := by
  rw [← Bool.not_eq_true, pastB_true]; omega
theorem pos_inj {m i j a b : Nat} (hj : j < m) (hb : b < m) (e : a * m + b = i * m + j) : a = i ∧ b = j := by
  have h1 := pos_div (i := a) hb
  have h2 := pos_div (i := i) hj
  rw [e] at h1
  exact ⟨h1.1.symm.trans h2.1, h1.2.symm.trans h2.2⟩
theorem agree_till {T : Tr} {x z : Nat → Nat → Int} {i j : Nat} (hj : j < T.cols.length) (h : Till T.rows.length T.cols.length (i * T.cols.length + j) z x) : Agree (NetT T) x z (pastB T.cols.length ((i * T.cols.length + j : Nat) : Int)) i j := fun a b ha hb hp hne => by
  have h1 := pastB_false.1 hp
  have hb' : b < T.cols.length := hb
  refine h a b ha hb (by
    by_cases e : a * T.cols.length + b = i * T.cols.length + j
    · exact absurd (pos_inj hj hb' e) hne
    · omega)
/-- what 'lowered' makes of a flow -/
theorem lowered_plain {T : Tr} {x r' : Nat → Nat → Int} {i j : Nat} {sent : Int} (hx : Flow (NetT T) x) (hi : i < T.rows.length) (hj : j < T.cols.length)
    (h : Pushed (T.rows.length + T.cols.length) (resD T.rows.length (elOf T.lo) (elOf T.hi) x (pastB T.cols.length ((i * T.cols.length + j : Nat) : Int))) i (T.rows.length + j) (x i j - elOf T.lo i j) sent r') {y : Nat → Nat → Int}
    (hy : ∀ a b, a < T.rows.length → b < T.cols.length → y a b = sentY (NetT T) x r' (pastB T.cols.length ((i * T.cols.length + j : Nat) : Int)) i j (- sent) a b) :
    Flow (NetT T) y ∧ Till T.rows.length T.cols.length (i * T.cols.length + j) y x ∧ LeastAt T y i j := by
  have hlo : elOf T.lo i j ≤ x i j := hx.lo i j hi hj
  have hP : pastB T.cols.length ((i * T.cols.length + j : Nat) : Int) i j = false := pastB_false.2 (Nat.le_refl _)
  have h2 := sendDown (t := NetT T) (P := pastB T.cols.length ((i * T.cols.length + j : Nat) : Int)) hx hi hj hP (lim := x i j - elOf T.lo i j) ⟨by omega, Int.le_refl _⟩ h
  have htl : Till T.rows.length T.cols.length (i * T.cols.length + j) y x := fun a b ha hb hp => by
    rw [hy a b ha hb]
    exact sentY_off (pastB_false.2 (by omega)) (fun e => by rw [e.1, e.2] at hp; omega)
  refine ⟨flow_congr h2.1 hy, htl, fun z hz hT => ?_⟩
  rw [hy i j hi hj]
  have hzx : Till T.rows.length T.cols.length (i * T.cols.length + j) z x := hT.trans htl
  rcases h2.2 with hd | hd
  · have h9 : elOf T.lo i j ≤ z i j := hz.lo i j hi hj
    rw [sentY_at hP]; omega
  · exact hd z hz (agree_till hj hzx)
/-- what is least stays least where a later flow agrees up to it -/
theorem LeastAt.keep {T : Tr} {x y : Nat → Nat → Int} {i j q : Nat} (h : LeastAt T x i j) (ht : Till T.rows.length T.cols.length q y x) (hq : i * T.cols.length + j < q) (hi : i < T.rows.length) (hj : j < T.cols.length) : LeastAt T y i j := fun z hz hT => by
  rw [ht i j hi hj hq]
  exact h z hz (hT.trans (ht.mono (by omega)))

set_option maxRecDepth 100000 in
set_option maxHeartbeats 3200000 in
theorem lowered_c (T : Tr) (X : List (List Int)) (a0 a1 a2 a3 ax : Option Addr) (c0 c1 c2 c3 cx n m i j : Nat) (w : World) (hn : T.rows.length = n) (hm : T.cols.length = m) (h : TrR w (.agg #[.slice a0 n c0, .slice a1 m c1, .slice a2 n c2, .slice a3 n c3]) T) (hX : Grid w (.slice ax n cx) X) (ho : TrOk T) (rc : Rc n m X) (hf : Flow (NetT T) (elOf X)) (hi' : i < n) (hj' : j < m) :
    Calls Try.prog 81 #[.agg #[.slice a0 n c0, .slice a1 m c1, .slice a2 n c2, .slice a3 n c3], .slice ax n cx, .int .i64 i, .int .i64 j] w fun e w' => ∃ (b o cap : Nat) (rvs : List Value) (Y : List (List Int)), e = .returned (.slice (some ⟨b, o, none⟩) n cap) ∧ n ≤ cap ∧ cap ≤ 9223372036854775807 ∧ OwnGA w.heap.size w'.heap.size w' (some ⟨b, o, none⟩) rvs Y ∧ Rc n m Y ∧ Flow (NetT T) (elOf Y) ∧ Till n m (i * m + j) (elOf Y) (elOf X) ∧ LeastAt T (elOf Y) i j ∧ Ext w w' := by
  have H := Lib.hid h; clear h
  have HX := Lib.hid hX
  obtain ⟨_, _, e9, _, _, gx⟩ := hX
  simp only [Value.slice.injEq] at e9
  obtain ⟨rfl, e8, rfl⟩ := e9
  clear e8
  have HO := Lib.hid ho; clear ho
  have HRC := Lib.hid rc; clear rc
  have HF := Lib.hid hf; clear hf
  have iT : i < T.rows.length := by rw [hn]; exact hi'
  have jT : j < T.cols.length := by rw [hm]; exact hj'
  have HW := Lib.hid (flow_within (by rw [hn, hm]; exact HRC.out) HF.out)
  have d2 : n ≤ 8 := by rw [← hn]; exact HO.out.dims.2.1
  have d4 : m ≤ 8 := by rw [← hm]; exact HO.out.dims.2.2.2.1
  have hce := HO.out.el iT jT
  have hwl : elOf T.lo i j ≤ elOf X i j := HF.out.lo i j iT jT
  have hwh : elOf X i j ≤ elOf T.hi i j := HF.out.hi i j iT jT
  have u0 := (Ext.refl w).alloc (.cells #[.slice a0 n c0, .slice a1 m c1, .slice a2 n c2, .slice a3 n c3] 30)
  have b0 := Box.new w 30 #[.slice a0 n c0, .slice a1 m c1, .slice a2 n c2, .slice a3 n c3] rfl
  -- the elements
  obtain ⟨bX, oX, aX, cX, rfl, hcX, x1_, x2_, x3_⟩ := (gx.ext u0).at_ (k := i) (by rw [HRC.out.len]; exact hi')
  obtain ⟨b5, o5, rfl, hx5⟩ := x3_ j (by rw [HRC.out.row i hi']; exact hj')
  rw [HRC.out.row i hi'] at hcX x1_
  clear x3_ gx
  obtain ⟨_, _, e9, _, _, gl⟩ := H.out.f2.ext u0
  simp only [Value.slice.injEq] at e9
  obtain ⟨rfl, e8, rfl⟩ := e9
  clear e8
  obtain ⟨bl, ol, al, cl, rfl, hcl, l1_, l2_, l3_⟩ := gl.at_ (k := i) (by rw [HO.out.rcLo.len]; exact iT)
  obtain ⟨b6, o6, rfl, hx6⟩ := l3_ j (by rw [HO.out.rcLo.row i iT]; exact jT)
  rw [HO.out.rcLo.row i iT, hm] at hcl l1_
  clear l3_ gl
  have q6 : ix (rowAt T.lo i) j = elOf T.lo i j := rfl
  have q5 : ix (rowAt X i) j = elOf X i j := rfl
  rw [q6] at hx6
  rw [q5] at hx5
  clear q5 q6
  have k0 := b0.cell 0 (by simp)
  have k1 := b0.cell 1 (by simp)
  have k2 := b0.cell 2 (by simp)
  have k3 := b0.cell 3 (by simp)
  obtain ⟨ws, hws⟩ : ∃ ws, w.alloc (.cells #[.slice a0 n c0, .slice a1 m c1, .slice (some ⟨bl, ol, none⟩) n c2, .slice a3 n c3] 30) = ws := ⟨_, rfl⟩
  rw [hws] at u0 b0 k0 k1 k2 k3 hcX hx5 hcl hx6
  have HWS := Lib.hid hws; clear hws
  obtain ⟨L, hL⟩ : ∃ L, elOf T.lo i j = L := ⟨_, rfl⟩
  obtain ⟨V, hV⟩ : ∃ V, elOf X i j = V := ⟨_, rfl⟩
  rw [hL] at hx6 hce hwl
  rw [hV] at hx5 hwl hwh
  have HL := Lib.hid hL; clear hL
  have HV := Lib.hid hV; clear hV
  obtain ⟨q, hq⟩ : ∃ q, n + j = q := ⟨_, rfl⟩
  have hqN : q < n + m := by omega
  have hiq : i ≠ q := by omega
  have HQ := Lib.hid hq
  have eq1 : (n : Int) + (j : Int) = (q : Int) := by omega
  have hw1 : IntKind.i64.wrap (q : Int) = (q : Int) := IntWalk.i64_in _ (by omega)
  clear hq
  obtain ⟨pm, hpm⟩ : ∃ pm, i * m = pm := ⟨_, rfl⟩
  have hpm8 : pm ≤ 64 := by rw [← hpm]; exact Nat.le_trans (Nat.mul_le_mul (show i ≤ 8 by omega) d4) (by omega)
  have ep1 : (i : Int) * (m : Int) = (pm : Int) := by rw [← hpm]; simp
  have hw2 : IntKind.i64.wrap (pm : Int) = (pm : Int) := IntWalk.i64_in _ (by omega)
  obtain ⟨p, hp⟩ : ∃ p, pm + j = p := ⟨_, rfl⟩
  have ep2 : (pm : Int) + (j : Int) = (p : Int) := by omega
  have hw3 : IntKind.i64.wrap (p : Int) = (p : Int) := IntWalk.i64_in _ (by omega)
  have hp8 : p ≤ 80 := by omega
  have HP : Hid (i * m + j = p) := Lib.hid (by rw [hpm]; exact hp)
  clear hpm hp
  obtain ⟨D, hD⟩ : ∃ D, V - L = D := ⟨_, rfl⟩
  have hw4 : IntKind.i64.wrap (V - L) = D := by rw [IntWalk.i64_in _ (by omega)]; exact hD
  have hDb : 0 ≤ D ∧ D ≤ 100000 := by omega
  have HD := Lib.hid hD; clear hD
  have HN := Lib.hid hn; clear hn
  have HM := Lib.hid hm; clear hm
  have HIT := Lib.hid iT; clear iT
  have HJT := Lib.hid jT; clear jT
  have hN18 : n + m ≤ 18 := by omega
  have hiN : i < n + m := by omega
  have hDr : -1000000000 ≤ D ∧ D ≤ 1000000000 := by omega
  have hcapN : n + m ≤ n + m ∧ n + m ≤ 9223372036854775807 := by omega
  go_enter Try.func81, Try.ntmps81
  go_wp2_with fail
  rw [HWS.out]
  go_quiet (fail)
  obtain ⟨wb, hwb⟩ : ∃ wb, ws.drewN nq = wb := ⟨_, rfl⟩
  have xb : Ext ws wb := by rw [← hwb]; exact (Ext.refl ws).drewN nq
  have y0 : wb.cell? ⟨w.heap.size, 0, none⟩ = some (.slice a0 n c0) := Ext.cell xb k0
  have y1 : wb.cell? ⟨w.heap.size, 1, none⟩ = some (.slice a1 m c1) := Ext.cell xb k1
  have y2 : wb.cell? ⟨w.heap.size, 2, none⟩ = some (.slice (some ⟨bl, ol, none⟩) n c2) := Ext.cell xb k2
  have y3 : wb.cell? ⟨w.heap.size, 3, none⟩ = some (.slice a3 n c3) := Ext.cell xb k3
  have yX := Ext.cell xb hcX
  have y5 := Ext.cell xb hx5
  have yl := Ext.cell xb hcl
  have y6 := Ext.cell xb hx6
  have xw := u0.trans xb
  clear k0 k1 k2 k3 hcX hx5 hcl hx6
  go_wp2_with fail
  try rw [hwb]
  clear hwb
  have hcon := residual_c _ T _ X (p : Int) wb (H.out.ext xw) (HX.out.ext xw) HO.out HW.out ⟨by omega, by omega⟩
  rw [HN.out, HM.out] at hcon
  refine hcon.mono ?_
  rintro e w1 ⟨ao, rvs, R, rfl, g1, s1, l1, u1⟩
  clear hcon
  have G1 := Lib.hid g1; clear g1
  have S1 := Lib.hid s1; clear s1
  have L1 := Lib.hid l1; clear l1
  have z0 : w1.cell? ⟨w.heap.size, 0, none⟩ = some (.slice a0 n c0) := Ext.cell u1 y0
  have z1 : w1.cell? ⟨w.heap.size, 1, none⟩ = some (.slice a1 m c1) := Ext.cell u1 y1
  have z2 : w1.cell? ⟨w.heap.size, 2, none⟩ = some (.slice (some ⟨bl, ol, none⟩) n c2) := Ext.cell u1 y2
  have z3 : w1.cell? ⟨w.heap.size, 3, none⟩ = some (.slice a3 n c3) := Ext.cell u1 y3
  have zX := Ext.cell u1 yX
  have z5 := Ext.cell u1 y5
  have zl := Ext.cell u1 yl
  have z6 := Ext.cell u1 y6
  have HB : Hid (∀ u v, u < n + m → v < n + m → 0 ≤ elOf R u v ∧ elOf R u v ≤ 1000000000) := Lib.hid (fun u v hu hv => by
    rw [L1.out u v hu hv]
    have h9 := resD_bound HO.out HW.out (pastB m (p : Int)) (u := u) (v := v) (by rw [HN.out, HM.out]; exact hu) (by rw [HN.out, HM.out]; exact hv)
    rw [HN.out] at h9; exact h9)
  have G1d := Lib.hid (G1.out.ext (Ext.refl w1).drew)
  have hs1d : w1.heap.size ≤ w1.drew.heap.size := Nat.le_refl _
  go_wp2_with fail
  go_region_held3 (fun x => x.cell? ⟨w.heap.size, 0, none⟩ = some (.slice a0 n c0) ∧ x.cell? ⟨w.heap.size, 1, none⟩ = some (.slice a1 m c1) ∧ x.cell? ⟨w.heap.size, 2, none⟩ = some (.slice (some ⟨bl, ol, none⟩) n c2) ∧ x.cell? ⟨w.heap.size, 3, none⟩ = some (.slice a3 n c3) ∧ x.cell? ⟨bX, oX + i, none⟩ = some (.slice (some ⟨b5, o5, none⟩) m cX) ∧ x.cell? ⟨b5, o5 + j, none⟩ = some (.int .i64 V) ∧ x.cell? ⟨bl, ol + i, none⟩ = some (.slice (some ⟨b6, o6, none⟩) m cl) ∧ x.cell? ⟨b6, o6 + j, none⟩ = some (.int .i64 L))
    (first | exact ⟨E2.cell y0, E2.cell y1, E2.cell y2, E2.cell y3, E2.cell yX, E2.cell y5, E2.cell yl, E2.cell y6⟩ | exact ⟨z0, z1, z2, z3, zX, z5, zl, z6⟩ | go_keep)
    ((go_at_call 61; refine (push_c wb.heap.size w1.heap.size ao (n + m) rvs R (n + m) i q D w1.drew G1d.out S1.out hcapN hN18 hiN hqN hiq HB.out hDr hs1d).mono ?_; rintro e w2 ⟨sent, R2, rfl, g2, s2, p2, U2⟩; have E2 := (u1.drew).of_upd U2 (fun b hb => hb.1); have G2 := Lib.hid g2; clear g2; have S2 := Lib.hid s2; clear s2; have P2 := Lib.hid p2; clear p2))
  have hpl : Pushed (T.rows.length + T.cols.length) (resD T.rows.length (elOf T.lo) (elOf T.hi) (elOf X) (pastB T.cols.length ((i * T.cols.length + j : Nat) : Int))) i (T.rows.length + j) (elOf X i j - elOf T.lo i j) sent (elOf R2) := by
    rw [HN.out, HM.out, HQ.out, HV.out, HL.out, HD.out, HP.out]
    exact P2.out.congr hiN (fun u v hu hv => (L1.out u v hu hv).symm) (fun _ _ _ _ => rfl)
  have HPL := Lib.hid hpl; clear hpl
  have hsb : 0 ≤ sent ∧ sent ≤ D := ⟨P2.out.pos, P2.out.le hDb.1⟩
  have a0' : w2.cell? ⟨w.heap.size, 0, none⟩ = some (.slice a0 n c0) := E2.cell y0
  have a1' : w2.cell? ⟨w.heap.size, 1, none⟩ = some (.slice a1 m c1) := E2.cell y1
  have a2' : w2.cell? ⟨w.heap.size, 2, none⟩ = some (.slice (some ⟨bl, ol, none⟩) n c2) := E2.cell y2
  have a3' : w2.cell? ⟨w.heap.size, 3, none⟩ = some (.slice a3 n c3) := E2.cell y3
  have xw2 := xw.trans E2
  have HGR : Hid (Grid w2 (.slice ao (n + m) (n + m)) R2) := Lib.hid ⟨ao, n + m, by rw [S2.out.len], by rw [S2.out.len]; exact Nat.le_refl _, by omega, G2.out.grid⟩
  have HB2 : Hid (∀ a b, a < n → b < m → -1000000000 ≤ elOf R2 a (n + b) ∧ elOf R2 a (n + b) ≤ 1000000000000) := Lib.hid (fun a b ha hb => by
    have h1 := P2.out.nonneg a (n + b) (by omega) (by omega)
    have h2 := P2.out.nonneg (n + b) a (by omega) (by omega)
    have h3 := P2.out.pair a (n + b) (by omega) (by omega)
    have h4 := HB.out a (n + b) (by omega) (by omega)
    have h5 := HB.out (n + b) a (by omega) (by omega)
    omega)
  go_wp2_with fail
  have hcon := restore_c _ T _ X _ R2 (p : Int) w2 (H.out.ext xw2) (HX.out.ext xw2) HGR.out HO.out (by rw [HN.out, HM.out]; exact HRC.out) ⟨by rw [HN.out, S2.out.len]; omega, fun a ha => by rw [HN.out] at ha; rw [HN.out, HM.out, S2.out.row a (by omega)]; exact Nat.le_refl _⟩ (by rw [HN.out, HM.out]; exact HB2.out) ⟨by omega, by omega⟩
  rw [HN.out, HM.out] at hcon
  refine hcon.mono ?_
  rintro e w3 ⟨x3, r3, Y, rfl, o3, rc3, el3, u3⟩
  clear hcon
  have HEL := Lib.hid el3; clear el3
  have HR3 := Lib.hid rc3; clear rc3
  obtain ⟨ay, cy, rfl, t1, t2, gy⟩ := o3
  rw [HR3.out.len] at t1 ⊢
  have GY := Lib.hid gy; clear gy
  obtain ⟨bg, og, rfl, _, _, _, hcp, _⟩ := GY.out.at_ (k := i) (by rw [HR3.out.len]; exact hi')
  obtain ⟨ap, cp, evp, ip1, ip2⟩ := GY.out.rowForm (k := i) (by rw [HR3.out.len]; exact hi')
  have hst := GY.out.store (k := i) (l := j) (by rw [HR3.out.len]; exact hi') (by rw [HR3.out.row i hi']; exact hj') evp
  rw [evp, HR3.out.row i hi'] at hcp
  rw [HR3.out.row i hi'] at ip1
  obtain ⟨bp, op, q3, lp1, lp2, lp3, hce3, hfe, st⟩ := hst
  subst q3
  have eY : ix (rowAt Y i) j = V := by
    have h9 := HEL.out i j hi' hj'
    have h8 : restD n (elOf T.hi) (elOf X) (elOf R2) (pastB m (p : Int)) i j = elOf X i j := by
      unfold restD
      rw [if_neg (by rw [Bool.not_eq_true, ← HP.out]; exact pastB_false.2 (Nat.le_refl _))]
    rw [h8, HV.out] at h9
    exact h9
  rw [eY] at hce3
  have hst := st (V - sent); clear st evp
  have HS := Lib.hid hst; clear hst
  have hx3 := (xw2.trans u3).setCell (a := ⟨bp, op + j, none⟩) (.int .i64 (V - sent)) (by have := xw2.size; simp only; omega)
  have HX3 := Lib.hid hx3; clear hx3
  have hs2 := xw2.size
  have HEY := Lib.hid eY; clear eY
  go_wp2
  go_ret
  have hfin := lowered_plain HF.out HIT.out HJT.out HPL.out (y := elOf (Y.set i ((rowAt Y i).set j (V - sent)))) (fun a b ha hb => by
    rw [HN.out] at ha
    rw [HM.out] at hb
    rw [HR3.out.el_set hi' hj']
    unfold sentY
    rw [HM.out, HP.out]
    by_cases e : a = i ∧ b = j
    · rw [if_pos e, if_neg (by rw [e.1, e.2, Bool.not_eq_true, ← HP.out]; exact pastB_false.2 (Nat.le_refl _)), if_pos e, e.1, e.2, HV.out]; omega
    · rw [if_neg e, if_neg e, HEL.out a b ha hb]
      unfold restD
      have en : (NetT T).n = n := HN.out
      rw [en]
      rfl)
  rw [HN.out, HM.out] at hfin
  exact ⟨bg, og, cy, r3, _, rfl, t1, t2, HS.out.mono hs2 (by rw [World.size_setCell]; exact Nat.le_refl _), HR3.out.set _, hfin.1, hfin.2.1, hfin.2.2, HX3.out⟩
set_option maxRecDepth 100000 in
set_option maxHeartbeats 3200000 in
theorem firstFrom_c (T : Tr) (X : List (List Int)) (a0 a1 a2 a3 ax : Option Addr) (c0 c1 c2 c3 cx n m q lo hi : Nat) (fr : Int) (rvs : List Value) (w : World) (hn : T.rows.length = n) (hm : T.cols.length = m) (h : TrR w (.agg #[.slice a0 n c0, .slice a1 m c1, .slice a2 n c2, .slice a3 n c3]) T) (ho : TrOk T) (gX : OwnGA lo hi w ax rvs X) (rc : Rc n m X) (hf : Flow (NetT T) (elOf X)) (hcx : n ≤ cx ∧ cx ≤ 9223372036854775807) (hlo : lo ≤ w.heap.size) (hhi : hi ≤ w.heap.size) (hfr : fr + 1 = (q : Int)) (hq : q ≤ 100) :
    Calls Try.prog 63 #[.agg #[.slice a0 n c0, .slice a1 m c1, .slice a2 n c2, .slice a3 n c3], .slice ax n cx, .int .i64 fr] w fun e w' => ∃ (ao : Option Addr) (cap : Nat) (rvs : List Value) (Y : List (List Int)), e = .returned (.slice ao n cap) ∧ n ≤ cap ∧ cap ≤ 9223372036854775807 ∧ OwnGA lo w'.heap.size w' ao rvs Y ∧ Rc n m Y ∧ Flow (NetT T) (elOf Y) ∧ Till n m q (elOf Y) (elOf X) ∧ (∀ i j, i < n → j < m → q ≤ i * m + j → LeastAt T (elOf Y) i j) ∧ Ext w w' := by
  have H := Lib.hid h; clear h
  have HO := Lib.hid ho; clear ho
  have hd := HO.out.dims
  rw [hn, hm] at hd
  obtain ⟨d1, d2, d3, d4, _⟩ := hd
  have HN := Lib.hid hn; clear hn
  have HM := Lib.hid hm; clear hm
  have u0 := (Ext.refl w).alloc (.cells #[.slice a0 n c0, .slice a1 m c1, .slice a2 n c2, .slice a3 n c3] 30)
  have b0 := Box.new w 30 #[.slice a0 n c0, .slice a1 m c1, .slice a2 n c2, .slice a3 n c3] rfl
  have k0 := b0.cell 0 (by simp)
  have k1 := b0.cell 1 (by simp)
  have k2 := b0.cell 2 (by simp)
  have k3 := b0.cell 3 (by simp)
  obtain ⟨ws, hws⟩ : ∃ ws, w.alloc (.cells #[.slice a0 n c0, .slice a1 m c1, .slice a2 n c2, .slice a3 n c3] 30) = ws := ⟨_, rfl⟩
  have hsz := u0.size
  have gX0 := (gX.ext u0).mono (Nat.le_refl lo) (show hi ≤ (w.alloc (.cells #[.slice a0 n c0, .slice a1 m c1, .slice a2 n c2, .slice a3 n c3] 30)).heap.size by omega)
  rw [hws] at u0 b0 k0 k1 k2 k3 gX0 hsz
  have GX := Lib.hid gX0; clear gX0 gX
  have HWS := Lib.hid hws; clear hws
  have HRC := Lib.hid rc; clear rc
  have HF := Lib.hid hf; clear hf
  obtain ⟨hc1, hc2⟩ := hcx
  obtain ⟨N, hN⟩ : ∃ N, n * m = N := ⟨_, rfl⟩
  have hN8 : N ≤ 64 := by rw [← hN]; exact Nat.le_trans (Nat.mul_le_mul d2 d4) (by omega)
  have eN : (n : Int) * (m : Int) = (N : Int) := by rw [← hN]; simp
  have hwN : IntKind.i64.wrap (N : Int) = (N : Int) := IntWalk.i64_in _ (by omega)
  have HNN := Lib.hid hN; clear hN
  have hfb : -1 ≤ fr ∧ fr ≤ 99 := by omega
  have hfr2 : fr = (q : Int) - 1 := by omega
  subst hfr2
  clear hfr hfb
  go_enter Try.func63, Try.ntmps63
  go_wp2_with fail
  rw [HWS.out]
  go_loopw [1, 8] (fun x i wr => ∃ (p : Nat) (ao : Option Addr) (cap : Nat) (rvs : List Value) (Y : List (List Int)), q ≤ p ∧ p ≤ 100 ∧ x = .slice ao n cap ∧ i = .int .i64 p ∧ n ≤ cap ∧ cap ≤ 9223372036854775807 ∧ OwnGA lo wr.heap.size wr ao rvs Y ∧ Rc n m Y ∧ Flow (NetT T) (elOf Y) ∧ Till n m q (elOf Y) (elOf X) ∧ (∀ i j, i < n → j < m → q ≤ i * m + j → i * m + j < p → LeastAt T (elOf Y) i j) ∧ Ext ws wr) (fun _ i _ => N - (intOf i).toNat)
  case atStart => exact ⟨q, ax, cx, rvs, X, Nat.le_refl _, hq, rfl, (by go_num), hc1, hc2, GX.out, HRC.out, HF.out, (fun i j _ _ _ => rfl), (fun i j _ _ h1 h2 => absurd h2 (by omega)), Ext.refl _⟩
  case round =>
    obtain ⟨p, ao, cap, rvs', Y, hp1, hp2, rfl, rfl, e1, e2, g, rcY, fY, tY, lY, hx⟩ := hrel
    obtain ⟨wo, rfl⟩ : ∃ wo : World, wo = wr := ⟨_, rfl⟩
    have GY := Lib.hid g; clear g
    have RY := Lib.hid rcY; clear rcY
    have FY := Lib.hid fY; clear fY
    have TY := Lib.hid tY; clear tY
    have LY := Lib.hid lY; clear lY
    have by_ := b0.ext hx
    have y0 := by_.cell 0 (by simp)
    have y1 := by_.cell 1 (by simp)
    have y2 := by_.cell 2 (by simp)
    have y3 := by_.cell 3 (by simp)
    have xw := u0.trans hx
    clear by_
    by_cases hlt : p < N
    · obtain ⟨k, hk⟩ : ∃ k, p / m = k := ⟨_, rfl⟩
      obtain ⟨l, hl⟩ : ∃ l, p % m = l := ⟨_, rfl⟩
      have hkn : k < n := by rw [← hk]; exact Nat.div_lt_of_lt_mul (by rw [Nat.mul_comm, HNN.out]; exact hlt)
      have hlm : l < m := by rw [← hl]; exact Nat.mod_lt _ (by omega)
      have hpos : k * m + l = p := by rw [← hk, ← hl, Nat.mul_comm]; exact Nat.div_add_mod p m
      have q1 : (p : Int) / (m : Int) = (k : Int) := by rw [← hk]; simp
      have q2 : (p : Int).tdiv (m : Int) = (k : Int) := by rw [Int.tdiv_eq_ediv_of_nonneg (by omega)]; exact q1
      have q3 : (p : Int) % (m : Int) = (l : Int) := by rw [← hl]; simp
      have q4 : (p : Int).tmod (m : Int) = (l : Int) := by rw [Int.tmod_eq_emod_of_nonneg (by omega)]; exact q3
      have q5 : IntKind.i64.wrap (k : Int) = (k : Int) := IntWalk.i64_in _ (by omega)
      have q6 : (m : Int) ≠ 0 := by omega
      have q7 : ¬ m = 0 := by omega
      have q8 : 0 < m := by omega
      have HPOS := Lib.hid hpos; clear hpos hk hl
      have hG : Hid (Grid wo.drew (.slice ao n cap) Y) := Lib.hid ⟨ao, cap, by rw [RY.out.len], by rw [RY.out.len]; exact e1, e2, GY.out.grid.ext (Ext.refl wo).drew⟩
      have hH : Hid (TrR wo.drew (.agg #[.slice a0 n c0, .slice a1 m c1, .slice a2 n c2, .slice a3 n c3]) T) := Lib.hid (H.out.ext xw.drew)
      have y0 : wo.cell? ⟨w.heap.size, 0, none⟩ = some (.slice a0 n c0) := y0
      have y1 : wo.cell? ⟨w.heap.size, 1, none⟩ = some (.slice a1 m c1) := y1
      have y2 : wo.cell? ⟨w.heap.size, 2, none⟩ = some (.slice a2 n c2) := y2
      have y3 : wo.cell? ⟨w.heap.size, 3, none⟩ = some (.slice a3 n c3) := y3
      go_wp2_with fail
      go_region_held3 (fun x => x.cell? ⟨w.heap.size, 0, none⟩ = some (.slice a0 n c0) ∧ x.cell? ⟨w.heap.size, 1, none⟩ = some (.slice a1 m c1) ∧ x.cell? ⟨w.heap.size, 2, none⟩ = some (.slice a2 n c2) ∧ x.cell? ⟨w.heap.size, 3, none⟩ = some (.slice a3 n c3))
        (first | exact ⟨E2.cell y0, E2.cell y1, E2.cell y2, E2.cell y3⟩ | exact ⟨y0, y1, y2, y3⟩ | go_keep)
        ((go_at_call 81; refine (lowered_c T Y a0 a1 a2 a3 ao c0 c1 c2 c3 cap n m k l wo.drew HN.out HM.out hH.out hG.out HO.out RY.out FY.out hkn hlm).mono ?_; rintro e w2 ⟨b, o, cap2, rvs2, Y2, rfl, t1, t2, g2, rc2, f2, tl2, ls2, u2⟩; have E2 := (Ext.refl wo).drew.trans u2))
      have hlo2 : lo ≤ wo.drew.heap.size := by have := xw.drew.size; omega
      have G2 := Lib.hid (g2.mono hlo2 (Nat.le_refl _)); clear g2
      have R2 := Lib.hid rc2; clear rc2
      have F2 := Lib.hid f2; clear f2
      have T2 : Hid (Till n m q (elOf Y2) (elOf X)) := Lib.hid ((tl2.mono (by rw [HPOS.out]; exact hp1)).trans TY.out)
      have L2 : Hid (∀ i j, i < n → j < m → q ≤ i * m + j → i * m + j < p + 1 → LeastAt T (elOf Y2) i j) := Lib.hid (fun i j hi hj h1 h2 => by
        by_cases e : i * m + j < p
        · exact (LY.out i j hi hj h1 e).keep (q := p) (by rw [HN.out, HM.out, ← HPOS.out]; exact tl2) (by rw [HM.out]; exact e) (by rw [HN.out]; exact hi) (by rw [HM.out]; exact hj)
        · have e2 := pos_inj (m := m) (i := k) (j := l) (a := i) (b := j) hlm hj (by rw [HPOS.out]; omega)
          rw [e2.1, e2.2]; exact ls2)
      clear tl2 ls2
      have hx2 := hx.trans E2
      go_wp2
      go_roundw
      case rel => exact ⟨p + 1, _, cap2, rvs2, Y2, by omega, by omega, rfl, by go_num, t1, t2, G2.out, R2.out, F2.out, T2.out, L2.out, hx2⟩
      case measure => simp [intOf]; omega
    · go_wp2
      go_ret
      exact ⟨ao, cap, rvs', Y, rfl, e1, e2, GY.out, RY.out, FY.out, TY.out, (fun i j hi hj h1 => LY.out i j hi hj h1 (by
        have h2 : (i + 1) * m ≤ n * m := Nat.mul_le_mul_right _ hi
        rw [HNN.out, Nat.add_mul] at h2
        omega)), xw⟩
theorem eql_nil_ff (t e : TypeId) (h : Program.underlying Try.prog t = some (.slice e)) (w : World) (a : Option Addr) (n c : Nat) : (binOp .neq t (.slice a n c) (.slice none 0 0)).run Try.prog w = .ok (.bool (!a.isNone)) w := by
  simp only [binOp]
  simp [Op.equal, Op.maxDepth, Go.Lib.run_equalIn_slice_nil w 9999 t e a n c 0 0 h]
set_option maxRecDepth 100000 in
set_option maxHeartbeats 1600000 in
theorem firstFlow_c (v : Value) (T : Tr) (w : World) (h : TrR w v T) (ho : TrOk T) :
    Calls Try.prog 48 #[v] w fun e w' => ∃ (v' : Value) (rvs : List Value), e = .returned v' ∧ OwnG w.heap.size w'.heap.size w' v' rvs (firstV T) ∧ Ext w w' ∧ ((feasB T = false ∧ v' = .slice none 0 0) ∨ (feasB T = true ∧ ∃ b o n cap, v' = .slice (some ⟨b, o, none⟩) n cap)) := by
  have H := Lib.hid h
  have HO := Lib.hid ho; clear ho
  obtain ⟨a0, c0, a1, c1, a2, c2, a3, c3, rfl, n0, n1, n2, n3⟩ := h.form
  clear h
  have e2 : T.lo.length = T.rows.length := HO.out.rcLo.len
  have e3 : T.hi.length = T.rows.length := HO.out.rcHi.len
  rw [e2, e3] at H ⊢
  clear e2 e3
  have u0 := (Ext.refl w).alloc (.cells #[.slice a0 T.rows.length c0, .slice a1 T.cols.length c1, .slice a2 T.rows.length c2, .slice a3 T.rows.length c3] 30)
  have b0 := Box.new w 30 #[.slice a0 T.rows.length c0, .slice a1 T.cols.length c1, .slice a2 T.rows.length c2, .slice a3 T.rows.length c3] rfl
  have k0 := b0.cell 0 (by simp)
  have k1 := b0.cell 1 (by simp)
  have k2 := b0.cell 2 (by simp)
  have k3 := b0.cell 3 (by simp)
  have q22 : ∀ (w : World) (a : Option Addr) (n c : Nat), (binOp .eql 23 (.slice a n c) (.slice none 0 0)).run Try.prog w = .ok (.bool a.isNone) w := fun w a n c => Go.Lib.run_eql_slice_nil w _ _ a n c 0 0 Try.underlying23
  go_enter Try.func48, Try.ntmps48
  go_wp2_with fail
  refine (anyFlow_c _ T _ (H.out.ext u0) HO.out).mono ?_
  rintro e w1 ⟨x1, rfl, u1, hp⟩
  have b1 := b0.ext u1
  have y0 := b1.cell 0 (by simp)
  have y1 := b1.cell 1 (by simp)
  have y2 := b1.cell 2 (by simp)
  have y3 := b1.cell 3 (by simp)
  have v1 := u0.trans u1
  rcases hp with ⟨rfl, hno⟩ | ⟨rvs, X, b, o, cap, rfl, oX, rcX, hfl⟩
  · have HF : Hid (feasB T = false) := Lib.hid (feasB_false.2 hno)
    have HV := Lib.hid (first_none HF.out)
    clear hno
    go_wp2
    go_ret
    rw [HV.out]
    exact ⟨_, [], rfl, OwnG.nil, v1, .inl ⟨HF.out, rfl⟩⟩
  · have HF : Hid (feasB T = true) := Lib.hid (feasB_true.2 ⟨_, hfl⟩)
    obtain ⟨ax, cx, e9, p1, p2, oXA⟩ := oX
    simp only [Value.slice.injEq] at e9
    obtain ⟨rfl, e8, rfl⟩ := e9
    clear e8
    have OX := Lib.hid oXA; clear oXA
    rw [rcX.len] at p1
    have RX := Lib.hid rcX; clear rcX
    have FX := Lib.hid hfl; clear hfl
    have hw0 := u0.size
    go_wp2_with fail
    refine (firstFrom_c T X a0 a1 a2 a3 _ c0 c1 c2 c3 _ T.rows.length T.cols.length 0 _ _ (-1) rvs _ rfl rfl (H.out.ext v1) HO.out OX.out RX.out FX.out ⟨p1, p2⟩ u1.size (Nat.le_refl _) (by omega) (by omega)).mono ?_
    rintro e w2 ⟨ao, cap2, rvs2, Y, rfl, t1, t2, g2, rc2, f2, _, ls2, u2⟩
    have HFF : Hid (firstV T = Y) := Lib.hid (FirstFrom.eq ⟨rc2, f2, fun i j hi hj h1 => ls2 i j hi hj h1⟩)
    clear ls2 f2
    have G2 := Lib.hid (g2.mono hw0 (Nat.le_refl _)); clear g2
    have R2 := Lib.hid rc2; clear rc2
    go_wp2
    go_ret
    rw [HFF.out]
    obtain ⟨b2, o2, rfl, _⟩ := G2.out.at_ (k := 0) (by rw [R2.out.len]; have := HO.out.dims.1; omega)
    exact ⟨.slice (some ⟨b2, o2, none⟩) T.rows.length cap2, rvs2, rfl, ⟨some ⟨b2, o2, none⟩, cap2, by rw [R2.out.len], by rw [R2.out.len]; exact t1, t2, G2.out⟩, v1.trans u2, .inr ⟨HF.out, _, _, _, _, rfl⟩⟩
end Go.Proofs.Ytjpomfdmgaambaa
namespace Go.Proofs.Ytjpomfdmgaambaa
open Go.RowKit
open Fm

/-- a grid that is read whatever becomes of the block B -/
def FarG (B : Nat) (w : World) (ao : Option Addr) (xss : List (List Int)) : Prop := ∀ x, Upd (fun b => b = B) w x → GridA x ao xss
namespace FarG
variable {B : Nat} {w w' : World} {ao : Option Addr} {xss : List (List Int)}
theorem here (h : FarG B w ao xss) : GridA w ao xss := h w (Upd.refl w)
theorem upd (h : FarG B w ao xss) (u : Upd (fun b => b = B) w w') : FarG B w' ao xss := fun x e => h x (u.trans e)
theorem ext (h : FarG B w ao xss) (u : Ext w w') : FarG B w' ao xss := h.upd u.upd
theorem of_own {lo hi : Nat} {rvs : List Value} (h : OwnGA lo hi w ao rvs xss) (hB : B < lo) : FarG B w ao xss := fun x e => (h.away e (fun b hb => .inl (by omega))).grid
theorem of_read {u : World} (h : GridA u ao xss) (e : Ext u w) (hB : u.heap.size ≤ B) : FarG B w ao xss := fun x e2 => h.ext (e.of_upd e2 (fun b hb => by omega))
end FarG
theorem next_pos (k m : Nat) : (k + 1) * m + 0 = k * m + m := by rw [Nat.add_mul]; omega

set_option maxRecDepth 100000 in
set_option maxHeartbeats 3200000 in
theorem tFirst_c (v : Value) (T : Tr) (w : World) (h : TrR w v T) (ho : TrOk T) : Calls Try.prog 46 #[v] w (RetGrid (fun v' => .tuple #[v', .bool (feasB T)]) w (firstV T)) := by
  have H := Lib.hid h
  have HO := Lib.hid ho; clear ho
  obtain ⟨a0, c0, a1, c1, a2, c2, a3, c3, rfl, n0, n1, n2, n3⟩ := h.form
  clear h
  obtain ⟨_, _, e9, _, p2, g2⟩ := H.out.f2
  simp only [Value.slice.injEq] at e9
  obtain ⟨rfl, e8, rfl⟩ := e9
  clear e8
  rename_i q2
  obtain ⟨_, _, e9, q3, p3, g3⟩ := H.out.f3
  simp only [Value.slice.injEq] at e9
  obtain ⟨rfl, e8, rfl⟩ := e9
  clear e8
  have G2 := Lib.hid g2; clear g2
  have G3 := Lib.hid g3; clear g3
  have hd := HO.out.dims
  have d2 := hd.2.1
  have d4 := hd.2.2.2.1
  clear hd
  have hll : T.lo.length = T.rows.length := HO.out.rcLo.len
  have hlh : T.hi.length = T.rows.length := HO.out.rcHi.len
  rw [hll] at q2
  rw [hlh] at q3
  rw [hll, hlh] at H ⊢
  clear hll hlh n2 n3
  obtain ⟨n, hn⟩ : ∃ n, T.rows.length = n := ⟨_, rfl⟩
  obtain ⟨m, hm⟩ : ∃ m, T.cols.length = m := ⟨_, rfl⟩
  rw [hn] at H n0 d2 q2 q3 ⊢
  rw [hm] at H n1 d4 ⊢
  have HN := Lib.hid hn; clear hn
  have HM := Lib.hid hm; clear hm
  have u0 := (Ext.refl w).alloc (.cells #[.slice a0 n c0, .slice a1 m c1, .slice a2 n c2, .slice a3 n c3] 30)
  have b0 := Box.new w 30 #[.slice a0 n c0, .slice a1 m c1, .slice a2 n c2, .slice a3 n c3] rfl
  have k0 := b0.cell 0 (by simp)
  have k1 := b0.cell 1 (by simp)
  have k2 := b0.cell 2 (by simp)
  have k3 := b0.cell 3 (by simp)
  obtain ⟨b, hb⟩ : ∃ b, feasB T = b := ⟨_, rfl⟩
  rw [hb]
  have HB := Lib.hid hb; clear hb
  cases b
  · have HV := Lib.hid (first_none HB.out)
    go_enter Try.func46, Try.ntmps46
    go_wp2_with fail
    refine (tFeasible_b false _ T _ HB.out (H.out.ext u0) HO.out).mono ?_
    rintro e w1 ⟨x1, rfl, u1⟩
    go_wp2
    go_ret2
    rw [HV.out]
    exact ⟨_, [], rfl, OwnG.nil, u0.trans u1⟩
  go_enter Try.func46, Try.ntmps46
  go_wp2_with fail
  refine (tFeasible_b true _ T _ HB.out (H.out.ext u0) HO.out).mono ?_
  rintro e w1 ⟨x1, rfl, u1⟩
  have b1 := b0.ext u1
  have v1 := u0.trans u1
  have y0 := b1.cell 0 (by simp)
  have f2 := FarG.of_read G2.out v1 (Nat.le_refl _)
  have f3 := FarG.of_read G3.out v1 (Nat.le_refl _)
  have FX := Lib.hid (Fixed.start HO.out (feasB_true.1 HB.out))
  have hp0 : (0 : Nat) = 0 * m + 0 := by omega
  have FX0 : Hid (Fixed T T (0 * m + 0)) := Lib.hid (by rw [← hp0]; exact FX.out)
  clear FX hp0
  have hsz1 : w.heap.size + 1 ≤ w1.heap.size := b1.lt
  have F2 := Lib.hid f2; clear f2
  have F3 := Lib.hid f3; clear f3
  go_wp2
  go_loopw [19] (fun i wr => ∃ (k : Nat) (T' : Tr) (a4 a5 : Option Addr) (c4 c5 : Nat), k ≤ n ∧ i = .int .i64 k ∧ Box wr w.heap.size 30 #[.slice a0 n c0, .slice a1 m c1, .slice a4 n c4, .slice a5 n c5] ∧ FarG w.heap.size wr a4 T'.lo ∧ FarG w.heap.size wr a5 T'.hi ∧ n ≤ c4 ∧ c4 ≤ 9223372036854775807 ∧ n ≤ c5 ∧ c5 ≤ 9223372036854775807 ∧ Fixed T T' (k * m + 0) ∧ Ext w wr ∧ w.heap.size + 1 ≤ wr.heap.size) (fun i _ => n - (intOf i).toNat)
  case atStart => exact ⟨0, T, a2, a3, c2, c3, Nat.zero_le _, rfl, b1, F2.out, F3.out, q2, p2, q3, p3, FX0.out, v1, hsz1⟩
  case round =>
    obtain ⟨k, T', a4, a5, c4, c5, hk, rfl, hb, hf4, hf5, e1, e2, e3, e4, hfx, hx, hsz⟩ := hrel
    obtain ⟨wo, rfl⟩ : ∃ wo : World, wo = wr := ⟨_, rfl⟩
    have F4 := Lib.hid hf4; clear hf4
    have F5 := Lib.hid hf5; clear hf5
    have FX := Lib.hid hfx; clear hfx
    have y0 := hb.cell 0 (by simp)
    have y1 := hb.cell 1 (by simp)
    have y2 := hb.cell 2 (by simp)
    have HBX := Lib.hid hb; clear hb
    by_cases hlt : k < n
    · go_wp2
      go_loopw [25] (fun i wr => ∃ (l : Nat) (T' : Tr) (a4 a5 : Option Addr) (c4 c5 : Nat), l ≤ m ∧ i = .int .i64 l ∧ Box wr w.heap.size 30 #[.slice a0 n c0, .slice a1 m c1, .slice a4 n c4, .slice a5 n c5] ∧ FarG w.heap.size wr a4 T'.lo ∧ FarG w.heap.size wr a5 T'.hi ∧ n ≤ c4 ∧ c4 ≤ 9223372036854775807 ∧ n ≤ c5 ∧ c5 ≤ 9223372036854775807 ∧ Fixed T T' (k * m + l) ∧ Ext w wr ∧ w.heap.size + 1 ≤ wr.heap.size) (fun i _ => m - (intOf i).toNat)
      case atStart => exact ⟨0, T', a4, a5, c4, c5, Nat.zero_le _, rfl, HBX.out, F4.out, F5.out, e1, e2, e3, e4, FX.out, hx, hsz⟩
      case round =>
        obtain ⟨l, T', a4, a5, c4, c5, hl, rfl, hb, hf4, hf5, e1, e2, e3, e4, hfx, hx, hsz⟩ := hrel
        obtain ⟨wi, rfl⟩ : ∃ wi : World, wi = wr := ⟨_, rfl⟩
        have F4 := Lib.hid hf4; clear hf4
        have F5 := Lib.hid hf5; clear hf5
        have FX := Lib.hid hfx; clear hfx
        by_cases hl2 : l < m
        · have hrn : T'.rows.length = n := by rw [FX.out.rows]; exact HN.out
          have hcm : T'.cols.length = m := by rw [FX.out.cols]; exact HM.out
          have el1 : T'.lo.length = n := by rw [FX.out.ok.rcLo.len]; exact hrn
          have el2 : T'.hi.length = n := by rw [FX.out.ok.rcHi.len]; exact hrn
          have hrd : TrR wi (.agg #[.slice a0 n c0, .slice a1 m c1, .slice a4 n c4, .slice a5 n c5]) T' :=
            ⟨_, _, _, _, rfl, by rw [FX.out.rows]; exact H.out.f0.ext hx, by rw [FX.out.cols]; exact H.out.f1.ext hx, ⟨a4, c4, by rw [el1], by rw [el1]; exact e1, e2, F4.out.here⟩, ⟨a5, c5, by rw [el2], by rw [el2]; exact e3, e4, F5.out.here⟩⟩
          have HRD := Lib.hid hrd; clear hrd
          have HRN := Lib.hid hrn; clear hrn
          have HCM := Lib.hid hcm; clear hcm el1 el2
          obtain ⟨V, hV⟩ : ∃ V, lowV T' k l = V := ⟨_, rfl⟩
          have HV := Lib.hid hV; clear hV
          have y0 := hb.cell 0 (by simp)
          have y1 := hb.cell 1 (by simp)
          have y2 := hb.cell 2 (by simp)
          have y3 := hb.cell 3 (by simp)
          go_wp2_with fail
          refine (tLow_c T' a0 a1 a4 a5 c0 c1 c4 c5 n m k l _ HRN.out HCM.out HRD.out FX.out.ok hlt hl2 FX.out.feas).mono ?_
          rw [HV.out]
          rintro e w3 ⟨rfl, u3⟩
          have hb3 := hb.ext u3
          have z0 := hb3.cell 0 (by simp)
          have z1 := hb3.cell 1 (by simp)
          have z2 := hb3.cell 2 (by simp)
          have z3 := hb3.cell 3 (by simp)
          have s3 := u3.size
          go_wp2_with fail
          refine (tWith_c T' a0 a1 a4 a5 c0 c1 c4 c5 n m k l V V _ HRN.out HCM.out (HRD.out.ext u3) FX.out.ok hlt hl2).mono ?_
          rintro e w4 ⟨a6, a7, c6, c7, mid, r6, r7, rfl, g6, g7, t1, t2, t3, t4, u4⟩
          have hb4 := hb3.ext u4
          have x0 := hb4.cell 0 (by simp)
          have x1 := hb4.cell 1 (by simp)
          have x2 := hb4.cell 2 (by simp)
          have x3 := hb4.cell 3 (by simp)
          have f0 := hb4.free 0
          have f1 := hb4.free 1
          have f2 := hb4.free 2
          have f3 := hb4.free 3
          have s4 := u4.size
          have hmid : w.heap.size < mid := by
            have h9 := g6.range (by intro e; have h8 := (FX.out.ok.rcLo.len); have h7 := HRN.out; rw [h7] at h8; have h6 := setEl_len T'.lo k l V; rw [e] at h6; simp at h6; omega)
            omega
          have up := Upd.put4 (Upd.refl (S := fun b => b = w.heap.size) w4) (B' := w.heap.size) rfl (.slice a0 n c0) (.slice a1 m c1) (.slice a6 n c6) (.slice a7 n c7)
          have g6' := (FarG.of_own g6 (B := w.heap.size) (by omega)).upd up
          have g7' := (FarG.of_own g7 (B := w.heap.size) hmid).upd up
          have hb5 := (((hb4.set 0 (.slice a0 n c0)).set 1 (.slice a1 m c1)).set 2 (.slice a6 n c6)).set 3 (.slice a7 n c7)
          have hx5 := ((hx.trans u3).trans u4).put4 (B := w.heap.size) (Nat.le_refl _) (.slice a0 n c0) (.slice a1 m c1) (.slice a6 n c6) (.slice a7 n c7)
          have hsz5 : w.heap.size + 1 ≤ (put4 w4 w.heap.size (.slice a0 n c0) (.slice a1 m c1) (.slice a6 n c6) (.slice a7 n c7)).heap.size := by rw [put4_size]; omega
          have hst := Fixed.step (T := T) (T' := T') (i := k) (j := l) (by rw [HM.out]; exact FX.out) (by rw [HN.out]; exact hlt) (by rw [HM.out]; exact hl2)
          rw [HV.out, HM.out] at hst
          have HA := Lib.hid (And.intro hb5 (And.intro g6' (And.intro g7' (And.intro hst (And.intro hx5 hsz5)))))
          clear hb5 g6' g7' hst hx5 hsz5 up g6 g7 hb hb3 hb4 hmid
          go_wp2
          go_roundw
          case rel => exact ⟨l + 1, withT T' k l V V, a6, a7, c6, c7, by omega, by go_num, HA.out.1, HA.out.2.1, HA.out.2.2.1, t1, t2, t3, t4, HA.out.2.2.2.1, HA.out.2.2.2.2.1, HA.out.2.2.2.2.2⟩
          case measure => simp [intOf]; omega
        · have hlm : l = m := by omega
          have FN : Hid (Fixed T T' ((k + 1) * m + 0)) := Lib.hid (by rw [next_pos]; rw [← hlm]; rw [← hlm] at FX; exact FX.out)
          clear hlm
          have HBX := Lib.hid hb; clear hb
          go_wp2
          go_roundw
          case rel => exact ⟨k + 1, T', a4, a5, c4, c5, by omega, by go_num, HBX.out, F4.out, F5.out, e1, e2, e3, e4, FN.out, hx, hsz⟩
          case measure => simp [intOf]; omega
    · have hkn : k = n := by omega
      have hfv := (FX.out.done (by rw [HN.out, HM.out, hkn]; exact Nat.le_refl _)).eq
      have HFV := Lib.hid hfv; clear hfv hkn
      have hrn : T'.rows.length = n := by rw [FX.out.rows]; exact HN.out
      have hcm : T'.cols.length = m := by rw [FX.out.cols]; exact HM.out
      have el1 : T'.lo.length = n := by rw [FX.out.ok.rcLo.len]; exact hrn
      have hG : Grid wo (.slice a4 n c4) T'.lo := ⟨a4, c4, by rw [el1], by rw [el1]; exact e1, e2, F4.out.here⟩
      have HG := Lib.hid hG; clear hG
      have hd3 : 1 ≤ m := by rw [← HM.out]; exact HO.out.dims.2.2.1
      have HL : Hid (T'.lo.length ≤ 1048576 ∧ (∀ k, k < T'.lo.length → (rowAt T'.lo k).length ≤ 1048576) ∧ ∀ k, k < T'.lo.length → rowAt T'.lo k ≠ []) := Lib.hid ⟨by omega, fun k hk => by
          have := FX.out.ok.rcLo.row k (by rw [← FX.out.ok.rcLo.len]; exact hk); omega, fun k hk e => by
          have := FX.out.ok.rcLo.row k (by rw [← FX.out.ok.rcLo.len]; exact hk); rw [e] at this; simp at this; omega⟩
      clear hrn hcm el1
      go_wp2_with fail
      refine (tOwn_c _ T'.lo _ HG.out HL.out.1 HL.out.2.1 HL.out.2.2).mono ?_
      rintro e w3 ⟨x3, r3, rfl, o3, u3⟩
      have s3 := hx.size
      go_wp2
      go_ret2
      rw [HFV.out]
      exact ⟨x3, r3, rfl, o3.mono s3 (Nat.le_refl _), hx.trans u3⟩
end Go.Proofs.Ytjpomfdmgaambaa
namespace Go.Proofs.Ytjpomfdmgaambaa
open Go.RowKit
open Fm
noncomputable def fdB (x : List (List Int)) (base : Int) : Bool := rnB x base && frB x base
noncomputable def fdV (x : List (List Int)) (base : Int) : Rd := if fdB x base = true then frD x base else ⟨[], [], [], 0⟩
theorem fd_off {x : List (List Int)} {base : Int} (h : fdB x base = false) : fdV x base = ⟨[], [], [], 0⟩ := by simp [fdV, h]
theorem fd_on {x : List (List Int)} {base : Int} (h : fdB x base = true) : fdV x base = frD x base := by simp [fdV, h]
theorem fdV_small (x : List (List Int)) (base : Int) : RdSmall (fdV x base) := by
  cases h : fdB x base
  · rw [fd_off h]
    exact ⟨Small.of_rows8 (by simp) (fun k hk => by simp at hk), by simp, by simp⟩
  · rw [fd_on h]
    unfold fdB rnB at h
    simp only [Bool.and_eq_true] at h
    have g := rn_dim h.1.1
    have hM := rn_matOk h.1.1
    refine ⟨Small.of_rows8 ?_ (fun k hk => ?_), ?_, ?_⟩
    · show (mapG _ x).length ≤ 8; rw [mapG_length]; omega
    · have hk : k < x.length := by have : k < (mapG (frEl (firstV (rnT x x.length (rowAt x 0).length base)) base) x).length := hk; rwa [mapG_length] at this
      show (rowAt (mapG _ x) k).length ≤ 8
      rw [rowAt_mapG hk, rowF_length, hM.row k hk]; omega
    · show (rowS (mapG _ x)).length ≤ _; rw [rowS_length, mapG_length]; omega
    · show (colS (mapG _ x) _).length ≤ _; rw [colS_length]; omega

set_option maxRecDepth 100000 in
set_option maxHeartbeats 3200000 in
theorem specFd_c (v1 : Value) (x : List (List Int)) (base : Int) (w : World) (h1 : Grid w v1 x) :
    Calls Try.prog 23 #[v1, .int .i64 base] w fun e w' => ∃ v', e = .returned (.tuple #[v', .bool (fdB x base)]) ∧ RdN w.heap.size w'.heap.size w' v' (fdV x base) ∧ Ext w w' := by
  have H1 := Lib.hid h1; clear h1
  have q22 : ∀ (w : World) (a : Option Addr) (n c : Nat), (binOp .eql 23 (.slice a n c) (.slice none 0 0)).run Try.prog w = .ok (.bool a.isNone) w := fun w a n c => Go.Lib.run_eql_slice_nil w _ _ a n c 0 0 Try.underlying23
  have u0 := (Ext.refl w).alloc (.cells #[.slice none 0 0, .slice none 0 0, .slice none 0 0, .int .i64 0] 44)
  have b0 := Box.new w 44 #[.slice none 0 0, .slice none 0 0, .slice none 0 0, .int .i64 0] rfl
  have nothing : ∀ (w' : World), Ext w w' → RdN w.heap.size w'.heap.size w' (.agg #[.slice none 0 0, .slice none 0 0, .slice none 0 0, .int .i64 0]) ⟨[], [], [], 0⟩ := fun w' _ => ⟨_, _, _, _, [], rfl, OwnG.nil, Own.nil, Own.nil, rfl⟩
  cases hg : rnB x base
  · have hG : fdB x base = false := by simp [fdB, hg]
    rw [fd_off hG, hG]; clear hG
    have HG := Lib.hid (show (gridB 7 10000 x && (decide (2 ≤ base) && decide (base ≤ 100))) = false from hg); clear hg
    go_enter Try.func23, Try.ntmps23
    go_wp2_with fail
    refine (oGood_b false _ x base _ HG.out (H1.out.ext u0)).mono ?_
    rintro e w' ⟨rfl, rfl⟩
    have f0 := b0.free 0
    have f1 := b0.free 1
    have f2 := b0.free 2
    have f3 := b0.free 3
    have k0 := b0.cell 0 (by simp)
    have k1 := b0.cell 1 (by simp)
    have k2 := b0.cell 2 (by simp)
    have k3 := b0.cell 3 (by simp)
    go_wp2
    refine bodyPost_ret (v := .tuple #[.agg #[.slice none 0 0, .slice none 0 0, .slice none 0 0, .int .i64 0], .bool false]) (by simp [results, Try.results23, go_sem, k0, k1, k2, k3]) rfl ⟨_, rfl, nothing _ ?_, ?_⟩
    · first | exact u0 | exact u0.put4 (Nat.le_refl _) _ _ _ _
    · first | exact u0 | exact u0.put4 (Nat.le_refl _) _ _ _ _
  have HG := Lib.hid (show (gridB 7 10000 x && (decide (2 ≤ base) && decide (base ≤ 100))) = true from hg)
  have hg' := HG.out
  simp only [Bool.and_eq_true, decide_eq_true_eq] at hg'
  have HX := Lib.hid hg'.1
  have hbs := hg'.2
  clear hg'
  have OK := Lib.hid (rnT_ok (rn_matOk HX.out) (rn_el HX.out) rfl (rn_dim HX.out) hbs.1 hbs.2)
  cases hf : feasB (rnT x x.length (rowAt x 0).length base)
  · have hG : fdB x base = false := by simp [fdB, frB, hf]
    rw [fd_off hG, hG]; clear hG
    have HF := Lib.hid hf; clear hf hg
    go_enter Try.func23, Try.ntmps23
    go_wp2_with fail
    refine (oGood_b true _ x base _ HG.out (H1.out.ext u0)).mono ?_
    rintro e w' ⟨rfl, rfl⟩
    go_wp2_with fail
    refine (oNetwork_c _ x x.length (rowAt x 0).length base _ (H1.out.ext u0) rfl (rn_matOk HX.out) (rn_el HX.out) (rn_dim HX.out) hbs.1 hbs.2).mono ?_
    rintro e w2 ⟨v2, rfl, o2, u2⟩
    have O2 := Lib.hid o2.read
    obtain ⟨a0, c0, a1, c1, a2, c2, a3, c3, rfl, q4⟩ := o2.read.form
    clear o2 q4
    have hz := u0.size
    have hz2 := u2.size
    go_wp2_with fail
    refine (tFirst_c _ _ _ O2.out OK.out).mono ?_
    rw [HF.out]
    rintro e w3 ⟨v3, rv3, rfl, o3, u3⟩
    clear o3
    have b3 := (b0.ext u2).ext u3
    have f0 := b3.free 0
    have f1 := b3.free 1
    have f2 := b3.free 2
    have f3 := b3.free 3
    have k0 := b3.cell 0 (by simp)
    have k1 := b3.cell 1 (by simp)
    have k2 := b3.cell 2 (by simp)
    have k3 := b3.cell 3 (by simp)
    go_wp2
    refine bodyPost_ret (v := .tuple #[.agg #[.slice none 0 0, .slice none 0 0, .slice none 0 0, .int .i64 0], .bool false]) (by simp [results, Try.results23, go_sem, k0, k1, k2, k3]) rfl ⟨_, rfl, nothing _ ?_, ?_⟩
    · first | exact ((u0.trans u2).trans u3) | exact ((u0.trans u2).trans u3).put4 (Nat.le_refl _) _ _ _ _
    · first | exact ((u0.trans u2).trans u3) | exact ((u0.trans u2).trans u3).put4 (Nat.le_refl _) _ _ _ _
  have HFF := Lib.hid (flow_fit (rn_matOk HX.out) (rn_el HX.out) rfl (rn_dim HX.out) hbs.1 hbs.2 hf)
  have hG : fdB x base = true := by simp [fdB, frB, hf, hg]
  have HVT := Lib.hid (fd_on hG)
  rw [hG]; clear hG hg
  have HF := Lib.hid hf; clear hf
  go_enter Try.func23, Try.ntmps23
  go_wp2_with fail
  refine (oGood_b true _ x base _ HG.out (H1.out.ext u0)).mono ?_
  rintro e w' ⟨rfl, rfl⟩
  go_wp2_with fail
  refine (oNetwork_c _ x x.length (rowAt x 0).length base _ (H1.out.ext u0) rfl (rn_matOk HX.out) (rn_el HX.out) (rn_dim HX.out) hbs.1 hbs.2).mono ?_
  rintro e w2 ⟨v2, rfl, o2, u2⟩
  have O2 := Lib.hid o2.read
  obtain ⟨a0, c0, a1, c1, a2, c2, a3, c3, rfl, q4⟩ := o2.read.form
  clear o2 q4
  have hz := u0.size
  have hz2 := u2.size
  go_wp2_with fail
  refine (tFirst_c _ _ _ O2.out OK.out).mono ?_
  rw [HF.out]
  rintro e w3 ⟨v3, rv3, rfl, o3, u3⟩
  have O3 := Lib.hid o3.grid
  clear o3 O2
  go_wp2_with fail
  refine (oFrom_c _ _ x x.length (rowAt x 0).length base _ O3.out HFF.out (rn_matOk HX.out) rfl (rn_dim HX.out)).mono ?_
  rintro e w4 ⟨v4, rfl, o4, u4⟩
  have O4 := Lib.hid o4
  obtain ⟨a0, c0, a1, c1, a2, c2, rfl, q4⟩ := o4.read.form
  clear o4 q4
  have b4 := ((b0.ext u2).ext u3).ext u4
  have f0 := b4.free 0
  have f1 := b4.free 1
  have f2 := b4.free 2
  have f3 := b4.free 3
  have k0 := b4.cell 0 (by simp)
  have k1 := b4.cell 1 (by simp)
  have k2 := b4.cell 2 (by simp)
  have k3 := b4.cell 3 (by simp)
  obtain ⟨D, hD⟩ : ∃ D, frD x base = D := ⟨_, rfl⟩
  rw [show margD (frC (firstV (rnT x x.length (rowAt x 0).length base)) x base) (rowAt x 0).length = D from hD] at O4 ⊢
  have HDD := Lib.hid (HVT.out.trans hD); clear hD
  go_wp2
  refine bodyPost_ret (v := .tuple #[.agg #[.slice a0 D.cells.length c0, .slice a1 D.rows.length c1, .slice a2 D.cols.length c2, .int .i64 D.total], .bool true]) (by simp [results, Try.results23, go_sem, k0, k1, k2, k3]) rfl ⟨_, rfl, ?_, (((u0.trans u2).trans u3).trans u4).put4 (Nat.le_refl _) _ _ _ _⟩
  have hs := put4_size w4 w.heap.size (.slice a0 D.cells.length c0) (.slice a1 D.rows.length c1) (.slice a2 D.cols.length c2) (.int .i64 D.total)
  have hlt : w.heap.size < w3.heap.size := by have := u3.size; simp at hz2; omega
  rw [HDD.out]
  exact (O4.out.away (Upd.put4 (Upd.refl w4) rfl _ _ _ _) (fun b hb => .inl (by subst hb; exact hlt))).mono (Nat.le_of_lt hlt) (Nat.le_of_eq hs.symm)

set_option maxRecDepth 100000 in
set_option maxHeartbeats 3200000 in
theorem implFd_c (v1 : Value) (x : List (List Int)) (base : Int) (w : World) (h1 : Grid w v1 x) :
    Calls Try.prog 24 #[v1, .int .i64 base] w fun e w' => ∃ v', e = .returned (.tuple #[v', .bool (fdB x base)]) ∧ RdO w.heap.size w'.heap.size w' v' (fdV x base) ∧ Ext w w' := by
  have H1 := Lib.hid h1; clear h1
  have q22 : ∀ (w : World) (a : Option Addr) (n c : Nat), (binOp .eql 23 (.slice a n c) (.slice none 0 0)).run Try.prog w = .ok (.bool a.isNone) w := fun w a n c => Go.Lib.run_eql_slice_nil w _ _ a n c 0 0 Try.underlying23
  have u0 := (Ext.refl w).alloc (.cells #[.slice none 0 0, .slice none 0 0, .slice none 0 0, .int .i64 0] 44)
  have b0 := Box.new w 44 #[.slice none 0 0, .slice none 0 0, .slice none 0 0, .int .i64 0] rfl
  have nothing : ∀ (w' : World), Ext w w' → RdO w.heap.size w'.heap.size w' (.agg #[.slice none 0 0, .slice none 0 0, .slice none 0 0, .int .i64 0]) ⟨[], [], [], 0⟩ := fun w' _ => ⟨_, _, _, _, [], rfl, OwnG.nil, Own.nil, Own.nil, fun b h _ => rn_nGB h, fun b h _ => rn_nGB h, fun b h _ => rn_nIB h, rfl⟩
  cases hx : gridB 7 10000 x
  · have hG : fdB x base = false := by simp [fdB, rnB, hx]
    rw [fd_off hG, hG]; clear hG
    have HX := Lib.hid hx; clear hx
    go_enter Try.func24, Try.ntmps24
    go_wp2_with fail
    refine (isMatrix_b false _ x _ HX.out (H1.out.ext u0)).mono ?_
    rintro e w' ⟨rfl, rfl⟩
    have f0 := b0.free 0
    have f1 := b0.free 1
    have f2 := b0.free 2
    have f3 := b0.free 3
    have k0 := b0.cell 0 (by simp)
    have k1 := b0.cell 1 (by simp)
    have k2 := b0.cell 2 (by simp)
    have k3 := b0.cell 3 (by simp)
    go_wp2
    refine bodyPost_ret (v := .tuple #[.agg #[.slice none 0 0, .slice none 0 0, .slice none 0 0, .int .i64 0], .bool false]) (by simp [results, Try.results24, go_sem, k0, k1, k2, k3]) rfl ⟨_, rfl, nothing _ ?_, ?_⟩
    · first | exact u0 | exact u0.put4 (Nat.le_refl _) _ _ _ _
    · first | exact u0 | exact u0.put4 (Nat.le_refl _) _ _ _ _
  cases hbb : (decide (2 ≤ base) && decide (base ≤ 100))
  · have hG : fdB x base = false := by simp only [fdB, rnB, hbb, Bool.and_false, Bool.false_and]
    rw [fd_off hG, hG]; clear hG
    have HX := Lib.hid hx; clear hx
    have HBB := Lib.hid hbb; clear hbb
    go_enter Try.func24, Try.ntmps24
    go_wp2_with fail
    refine (isMatrix_b true _ x _ HX.out (H1.out.ext u0)).mono ?_
    rintro e w' ⟨rfl, rfl⟩
    go_wp2_with fail
    refine (isBaseOf_b false base _ HBB.out).mono ?_
    rintro e w' ⟨rfl, rfl⟩
    have f0 := b0.free 0
    have f1 := b0.free 1
    have f2 := b0.free 2
    have f3 := b0.free 3
    have k0 := b0.cell 0 (by simp)
    have k1 := b0.cell 1 (by simp)
    have k2 := b0.cell 2 (by simp)
    have k3 := b0.cell 3 (by simp)
    go_wp2
    refine bodyPost_ret (v := .tuple #[.agg #[.slice none 0 0, .slice none 0 0, .slice none 0 0, .int .i64 0], .bool false]) (by simp [results, Try.results24, go_sem, k0, k1, k2, k3]) rfl ⟨_, rfl, nothing _ ?_, ?_⟩
    · first | exact u0 | exact u0.put4 (Nat.le_refl _) _ _ _ _
    · first | exact u0 | exact u0.put4 (Nat.le_refl _) _ _ _ _
  have hg : rnB x base = true := by unfold rnB; rw [hx, hbb]; rfl
  have hbs : 2 ≤ base ∧ base ≤ 100 := by simpa using hbb
  have HX := Lib.hid hx; clear hx
  have HBB := Lib.hid hbb; clear hbb
  have OK := Lib.hid (rnT_ok (rn_matOk HX.out) (rn_el HX.out) rfl (rn_dim HX.out) hbs.1 hbs.2)
  cases hf : feasB (rnT x x.length (rowAt x 0).length base)
  · have hG : fdB x base = false := by simp [fdB, frB, hf]
    rw [fd_off hG, hG]; clear hG
    have HF := Lib.hid hf; clear hf hg
    go_enter Try.func24, Try.ntmps24
    go_wp2_with fail
    refine (isMatrix_b true _ x _ HX.out (H1.out.ext u0)).mono ?_
    rintro e w' ⟨rfl, rfl⟩
    go_wp2_with fail
    refine (isBaseOf_b true base _ HBB.out).mono ?_
    rintro e w' ⟨rfl, rfl⟩
    go_wp2_with fail
    refine (roundingNetwork_c _ x x.length (rowAt x 0).length base _ (H1.out.ext u0) rfl (rn_matOk HX.out) (rn_el HX.out) (rn_dim HX.out) hbs.1 hbs.2).mono ?_
    rintro e w2 ⟨v2, rfl, o2, u2⟩
    have O2 := Lib.hid o2.read
    obtain ⟨a0, c0, a1, c1, a2, c2, a3, c3, rfl, q4⟩ := o2.read.form
    clear o2 q4
    have hz := u0.size
    have hz2 := u2.size
    go_wp2_with fail
    refine (firstFlow_c _ _ _ O2.out OK.out).mono ?_
    rintro e w3 ⟨v3, rv3, rfl, o3, u3, hv⟩
    clear o3
    obtain ⟨_, rfl⟩ := hv.resolve_right (fun h => by have := HF.out; rw [h.1] at this; cases this)
    have b3 := (b0.ext u2).ext u3
    have f0 := b3.free 0
    have f1 := b3.free 1
    have f2 := b3.free 2
    have f3 := b3.free 3
    have k0 := b3.cell 0 (by simp)
    have k1 := b3.cell 1 (by simp)
    have k2 := b3.cell 2 (by simp)
    have k3 := b3.cell 3 (by simp)
    go_wp2
    refine bodyPost_ret (v := .tuple #[.agg #[.slice none 0 0, .slice none 0 0, .slice none 0 0, .int .i64 0], .bool false]) (by simp [results, Try.results24, go_sem, k0, k1, k2, k3]) rfl ⟨_, rfl, nothing _ ?_, ?_⟩
    · first | exact ((u0.trans u2).trans u3) | exact ((u0.trans u2).trans u3).put4 (Nat.le_refl _) _ _ _ _
    · first | exact ((u0.trans u2).trans u3) | exact ((u0.trans u2).trans u3).put4 (Nat.le_refl _) _ _ _ _
  have HFF := Lib.hid (flow_fit (rn_matOk HX.out) (rn_el HX.out) rfl (rn_dim HX.out) hbs.1 hbs.2 hf)
  have hG : fdB x base = true := by simp [fdB, frB, hf, hg]
  have HVT := Lib.hid (fd_on hG)
  rw [hG]; clear hG hg
  have HF := Lib.hid hf; clear hf
  go_enter Try.func24, Try.ntmps24
  go_wp2_with fail
  refine (isMatrix_b true _ x _ HX.out (H1.out.ext u0)).mono ?_
  rintro e w' ⟨rfl, rfl⟩
  go_wp2_with fail
  refine (isBaseOf_b true base _ HBB.out).mono ?_
  rintro e w' ⟨rfl, rfl⟩
  go_wp2_with fail
  refine (roundingNetwork_c _ x x.length (rowAt x 0).length base _ (H1.out.ext u0) rfl (rn_matOk HX.out) (rn_el HX.out) (rn_dim HX.out) hbs.1 hbs.2).mono ?_
  rintro e w2 ⟨v2, rfl, o2, u2⟩
  have O2 := Lib.hid o2.read
  obtain ⟨a0, c0, a1, c1, a2, c2, a3, c3, rfl, q4⟩ := o2.read.form
  clear o2 q4
  have hz := u0.size
  have hz2 := u2.size
  go_wp2_with fail
  refine (firstFlow_c _ _ _ O2.out OK.out).mono ?_
  rintro e w3 ⟨v3, rv3, rfl, o3, u3, hv⟩
  obtain ⟨_, b9, o9, n9, c9, rfl⟩ := hv.resolve_left (fun h => by have := HF.out; rw [h.1] at this; cases this)
  have O3 := Lib.hid o3.grid
  clear o3 O2
  go_wp2_with fail
  refine (roundingOf_c _ _ _ x x.length (rowAt x 0).length base _ (H1.out.ext ((u0.trans u2).trans u3)) O3.out HFF.out (rn_matOk HX.out) rfl (rn_dim HX.out)).mono ?_
  rintro e w4 ⟨v4, rfl, o4, u4⟩
  have O4 := Lib.hid o4
  obtain ⟨a0, c0, a1, c1, a2, c2, rfl, q4⟩ := o4.read.form
  clear o4 q4
  have b4 := ((b0.ext u2).ext u3).ext u4
  have f0 := b4.free 0
  have f1 := b4.free 1
  have f2 := b4.free 2
  have f3 := b4.free 3
  have k0 := b4.cell 0 (by simp)
  have k1 := b4.cell 1 (by simp)
  have k2 := b4.cell 2 (by simp)
  have k3 := b4.cell 3 (by simp)
  obtain ⟨D, hD⟩ : ∃ D, frD x base = D := ⟨_, rfl⟩
  rw [show margD (frC (firstV (rnT x x.length (rowAt x 0).length base)) x base) (rowAt x 0).length = D from hD] at O4 ⊢
  have HDD := Lib.hid (HVT.out.trans hD); clear hD
  go_wp2
  refine bodyPost_ret (v := .tuple #[.agg #[.slice a0 D.cells.length c0, .slice a1 D.rows.length c1, .slice a2 D.cols.length c2, .int .i64 D.total], .bool true]) (by simp [results, Try.results24, go_sem, k0, k1, k2, k3]) rfl ⟨_, rfl, ?_, (((u0.trans u2).trans u3).trans u4).put4 (Nat.le_refl _) _ _ _ _⟩
  have hs := put4_size w4 w.heap.size (.slice a0 D.cells.length c0) (.slice a1 D.rows.length c1) (.slice a2 D.cols.length c2) (.int .i64 D.total)
  have hlt : w.heap.size < w3.heap.size := by have := u3.size; simp at hz2; omega
  rw [HDD.out]
  exact (O4.out.away (Upd.put4 (Upd.refl w4) rfl _ _ _ _) (fun b hb => .inl (by subst hb; exact hlt))).mono (Nat.le_of_lt hlt) (Nat.le_of_eq hs.symm)
end Go.Proofs.Ytjpomfdmgaambaa
namespace Go.Proofs.Ytjpomfdmgaambaa
open Go.RowKit

set_option maxHeartbeats 3200000 in
theorem lawFirstRounding_c (v0 : Value) (xs0 : List (List Int)) (a1 : Int) (w : World) (h0 : Grid w v0 xs0) (_ : WfG xs0) (i1 : -9223372036854775808 ≤ a1 ∧ a1 ≤ 9223372036854775807) :
    Calls Try.prog 6 #[v0, .int .i64 a1] w fun e w' => e = .returned (.bool true) ∧ Ext w w' := by
  have H0 := Lib.hid h0; clear h0
  have I1 := Lib.hid i1; clear i1
  have v0 := (Ext.refl w)
  obtain ⟨V0, hV0⟩ : ∃ V, fdV xs0 a1 = V := ⟨_, rfl⟩
  have HV0 := Lib.hid hV0; clear hV0
  obtain ⟨V1, hV1⟩ : ∃ V, fdB xs0 a1 = V := ⟨_, rfl⟩
  have HV1 := Lib.hid hV1; clear hV1
  have qv1 : (V1 != V1) = false := by simp
  go_enter Try.func6, Try.ntmps6
  obtain ⟨t0, ht0⟩ : ∃ t, szG 1048576 xs0 = t := ⟨_, rfl⟩
  have T0 := Lib.hid ht0; clear ht0
  go_wp2_with fail
  refine (szIntSS_c _ xs0 1048576 _ (H0.out.ext v0) (by omega)).mono ?_
  rw [T0.out]
  rintro e w' ⟨rfl, rfl⟩
  by_cases hz0 : t0 < 0
  · go_wp2
    go_ret
    exact ⟨rfl, v0⟩
  have tr0 : 0 ≤ t0 ∧ t0 ≤ 1048576 := by have h1 := T0.out; have h2 := szG_range (left := 1048576) (xss := xs0) (by omega); omega
  have S0 := Lib.hid (Small.of_szG (left := 1048576) (xss := xs0) (by omega) (by have h1 := T0.out; omega))
  obtain ⟨k0, hk0⟩ : ∃ k, 1 + (psum xs0 xs0.length : Int) = k := ⟨_, rfl⟩
  have kb0 : 1 ≤ k0 ∧ k0 ≤ 1048577 := by have h1 := S0.out.psum xs0.length (Nat.le_refl _); omega
  have HK0 := Lib.hid hk0; clear hk0
  have kn : ¬ (k0 < 0) := by omega
  have kd : decide (k0 < 0) = false := by simp; omega
  have RS0 := Lib.hid (show RdSmall V0 by rw [← HV0.out]; exact fdV_small _ _)
  obtain ⟨m0, hm0⟩ : ∃ m, 1 + RdSize V0 = m := ⟨_, rfl⟩
  have mb0 : 1 ≤ m0 ∧ m0 ≤ 4194305 := by have h1 := RS0.out.size; omega
  have HM0 := Lib.hid hm0; clear hm0
  have mn0 : ¬ (m0 < 0) := by omega
  have md0 : decide (m0 < 0) = false := by simp; omega
  have mq : (m0 != m0) = false := by simp
  go_wp2_with fail
  refine (toIntSS_c _ xs0 _ (H0.out.ext v0) S0.out.len S0.out.row).mono ?_
  rintro e w2 ⟨x2, r2, rfl, o2, u2⟩
  have v2 := v0.trans u2
  have SZ2 := Lib.hid u2.size
  have O2 := Lib.hid o2
  clear o2
  have RS_2 := Lib.hid u2.size
  go_wp2_with fail
  refine (specFd_c _ xs0 a1 _ O2.out.grid ).mono ?_
  rw [HV0.out]
  rw [HV1.out]
  rintro e w3 ⟨x3, rfl, o3, u3⟩
  have v3 := v2.trans u3
  have SZ3 := Lib.hid u3.size
  have O3 := Lib.hid o3
  clear o3
  have RS_3 := Lib.hid u3.size
  obtain ⟨a3_0, cp3_0, a3_1, cp3_1, a3_2, cp3_2, hxx3, _, _, _⟩ := O3.out.read.form
  subst hxx3
  have bo3 := Box.new w3 44 #[.slice a3_0 V0.cells.length cp3_0, .slice a3_1 V0.rows.length cp3_1, .slice a3_2 V0.cols.length cp3_2, .int .i64 V0.total] rfl
  have u4 := (Ext.refl w3).alloc (.cells #[.slice a3_0 V0.cells.length cp3_0, .slice a3_1 V0.rows.length cp3_1, .slice a3_2 V0.cols.length cp3_2, .int .i64 V0.total] 44)
  have v4 := v3.trans u4
  have SZ4 := Lib.hid u4.size
  have SA4 : Hid ((w3.alloc (.cells #[.slice a3_0 V0.cells.length cp3_0, .slice a3_1 V0.rows.length cp3_1, .slice a3_2 V0.cols.length cp3_2, .int .i64 V0.total] 44)).heap.size = w3.heap.size + 1) := Lib.hid (by simp)
  go_wp2_with fail
  refine (toIntSS_c _ xs0 _ (H0.out.ext v4) S0.out.len S0.out.row).mono ?_
  rintro e w5 ⟨x5, r5, rfl, o5, u5⟩
  have v5 := v4.trans u5
  have SZ5 := Lib.hid u5.size
  have O5 := Lib.hid o5
  clear o5
  have RS_5 := Lib.hid u5.size
  go_wp2_with fail
  refine (implFd_c _ xs0 a1 _ O5.out.grid ).mono ?_
  rw [HV0.out]
  rw [HV1.out]
  rintro e w6 ⟨x6, rfl, o6, u6⟩
  have v6 := v5.trans u6
  have SZ6 := Lib.hid u6.size
  have O6 := Lib.hid o6
  clear o6
  have RS_6 := Lib.hid u6.size
  obtain ⟨a6_0, cp6_0, a6_1, cp6_1, a6_2, cp6_2, hxx6, _, _, _⟩ := O6.out.read.form
  subst hxx6
  have bo6 := Box.new w6 44 #[.slice a6_0 V0.cells.length cp6_0, .slice a6_1 V0.rows.length cp6_1, .slice a6_2 V0.cols.length cp6_2, .int .i64 V0.total] rfl
  have u7 := (Ext.refl w6).alloc (.cells #[.slice a6_0 V0.cells.length cp6_0, .slice a6_1 V0.rows.length cp6_1, .slice a6_2 V0.cols.length cp6_2, .int .i64 V0.total] 44)
  have v7 := v6.trans u7
  have SZ7 := Lib.hid u7.size
  have SA7 : Hid ((w6.alloc (.cells #[.slice a6_0 V0.cells.length cp6_0, .slice a6_1 V0.rows.length cp6_1, .slice a6_2 V0.cols.length cp6_2, .int .i64 V0.total] 44)).heap.size = w6.heap.size + 1) := Lib.hid (by simp)
  have bx8 := bo6
  have cx8_0 := bx8.cell 0 (by simp)
  have cx8_1 := bx8.cell 1 (by simp)
  have cx8_2 := bx8.cell 2 (by simp)
  have cx8_3 := bx8.cell 3 (by simp)
  have bx9 := (((bo3.ext u5).ext u6).ext u7)
  have cx9_0 := bx9.cell 0 (by simp)
  have cx9_1 := bx9.cell 1 (by simp)
  have cx9_2 := bx9.cell 2 (by simp)
  have cx9_3 := bx9.cell 3 (by simp)
  go_wp2_with fail
  refine (eqRounding_t _ _ V0 _ (O6.out.ext u7).read ((((O3.out.ext u4).ext u5).ext u6).ext u7).read).mono ?_
  rintro e w10 ⟨rfl, u10⟩
  have v10 := v7.trans u10
  have SZ10 := Lib.hid u10.size
  go_wp2_with fail
  refine (toIntSS_c _ xs0 _ (H0.out.ext v10) S0.out.len S0.out.row).mono ?_
  rintro e w11 ⟨x11, r11, rfl, o11, u11⟩
  have v11 := v10.trans u11
  have SZ11 := Lib.hid u11.size
  have O11 := Lib.hid o11
  clear o11
  have RS_11 := Lib.hid u11.size
  go_wp2_with fail
  refine (eqIntSS_b true _ _ xs0 xs0 _ (by simp) ((((O5.out.ext u6).ext u7).ext u10).ext u11).grid O11.out.grid).mono ?_
  rintro e w12 ⟨rfl, d12⟩
  have u12 := Drew.ext d12
  have v12 := v11.trans u12
  have SZ12 := Lib.hid u12.size
  go_wp2_with fail
  refine (markIntSS_c _ _ _ _ xs0 1 _ (((((O5.out.ext u6).ext u7).ext u10).ext u11).ext u12) S0.out.row S0.out.psum (by omega)).mono ?_
  rw [HK0.out]
  rintro e w13 ⟨rfl, ⟨ys13, o13, mk13⟩, u13⟩
  have OM13 := Lib.hid o13; clear o13
  have MK13 := Lib.hid mk13; clear mk13
  have U13 := Lib.hid u13; clear u13
  have RG13 : Hid (∀ b, rowBlks r5 xs0 b → _ ∧ b < _) := Lib.hid (fun b hb => by have := O5.out.blks hb; exact ⟨this.1, this.2.1⟩)
  have v13 := v12.of_upd U13.out (fun b hb => by have := RG13.out b hb; have := SZ2.out; have := SZ3.out; have := SZ4.out; have := SA4.out; have := SZ5.out; have := SZ6.out; have := SZ7.out; have := SA7.out; have := SZ10.out; have := SZ11.out; have := SZ12.out; omega)
  have SZ13 := Lib.hid U13.out.size
  have bx14 := ((((bo6.ext u10).ext u11).ext u12).upd U13.out (fun hb => by have := RG13.out _ hb; have := RS_5.out; have := SZ2.out; have := SZ3.out; have := SZ4.out; have := SA4.out; have := SZ5.out; have := SZ6.out; have := SZ7.out; have := SA7.out; have := SZ10.out; have := SZ11.out; have := SZ12.out; have := SZ13.out; omega))
  have cx14_0 := bx14.cell 0 (by simp)
  have cx14_1 := bx14.cell 1 (by simp)
  have cx14_2 := bx14.cell 2 (by simp)
  have cx14_3 := bx14.cell 3 (by simp)
  have bx15 := (((((((bo3.ext u5).ext u6).ext u7).ext u10).ext u11).ext u12).upd U13.out (fun hb => by have := RG13.out _ hb; have := RS_5.out; have := SZ2.out; have := SZ3.out; have := SZ4.out; have := SA4.out; have := SZ5.out; have := SZ6.out; have := SZ7.out; have := SA7.out; have := SZ10.out; have := SZ11.out; have := SZ12.out; have := SZ13.out; omega))
  have cx15_0 := bx15.cell 0 (by simp)
  have cx15_1 := bx15.cell 1 (by simp)
  have cx15_2 := bx15.cell 2 (by simp)
  have cx15_3 := bx15.cell 3 (by simp)
  go_wp2_with fail
  refine (eqRounding_t _ _ V0 _ (((((O6.out.ext u7).ext u10).ext u11).ext u12).away U13.out (fun b hb => by have := RG13.out b hb; have := RS_5.out; have := RS_6.out; have := SZ2.out; have := SZ3.out; have := SZ4.out; have := SA4.out; have := SZ5.out; have := SZ6.out; have := SZ7.out; have := SA7.out; have := SZ10.out; have := SZ11.out; have := SZ12.out; have := SZ13.out; omega)).read ((((((((O3.out.ext u4).ext u5).ext u6).ext u7).ext u10).ext u11).ext u12).away U13.out (fun b hb => by have := RG13.out b hb; have := RS_5.out; have := RS_3.out; have := SZ2.out; have := SZ3.out; have := SZ4.out; have := SA4.out; have := SZ5.out; have := SZ6.out; have := SZ7.out; have := SA7.out; have := SZ10.out; have := SZ11.out; have := SZ12.out; have := SZ13.out; omega)).read).mono ?_
  rintro e w16 ⟨rfl, u16⟩
  have v16 := v13.trans u16
  have SZ16 := Lib.hid u16.size
  have bx17 := (((((bo6.ext u10).ext u11).ext u12).upd U13.out (fun hb => by have := RG13.out _ hb; have := RS_5.out; have := SZ2.out; have := SZ3.out; have := SZ4.out; have := SA4.out; have := SZ5.out; have := SZ6.out; have := SZ7.out; have := SA7.out; have := SZ10.out; have := SZ11.out; have := SZ12.out; have := SZ13.out; have := SZ16.out; omega)).ext u16)
  have cx17_0 := bx17.cell 0 (by simp)
  have cx17_1 := bx17.cell 1 (by simp)
  have cx17_2 := bx17.cell 2 (by simp)
  have cx17_3 := bx17.cell 3 (by simp)
  go_wp2_with fail
  refine (markRounding_c _ _ _ V0 1 _ ((((((O6.out.ext u7).ext u10).ext u11).ext u12).away U13.out (fun b hb => by have := RG13.out b hb; have := RS_5.out; have := RS_6.out; have := SZ2.out; have := SZ3.out; have := SZ4.out; have := SA4.out; have := SZ5.out; have := SZ6.out; have := SZ7.out; have := SA7.out; have := SZ10.out; have := SZ11.out; have := SZ12.out; have := SZ13.out; have := SZ16.out; omega)).ext u16) RS0.out (by omega)).mono ?_
  rw [HM0.out]
  rintro e w18 ⟨rfl, ⟨ys18, o18, mk18⟩, u18⟩
  have OM18 := Lib.hid o18; clear o18
  have MK18 := Lib.hid mk18; clear mk18
  have U18 := Lib.hid u18; clear u18
  have RG18 := Lib.hid (rgOf U18.out)
  have v18 := v16.of_upd U18.out (fun b hb => by have := RG18.out b hb; have := SZ2.out; have := SZ3.out; have := SZ4.out; have := SA4.out; have := SZ5.out; have := SZ6.out; have := SZ7.out; have := SA7.out; have := SZ10.out; have := SZ11.out; have := SZ12.out; have := SZ13.out; have := SZ16.out; omega)
  have SZ18 := Lib.hid U18.out.size
  have bx19 := ((((((bo6.ext u10).ext u11).ext u12).upd U13.out (fun hb => by have := RG13.out _ hb; have := RS_5.out; have := SZ2.out; have := SZ3.out; have := SZ4.out; have := SA4.out; have := SZ5.out; have := SZ6.out; have := SZ7.out; have := SA7.out; have := SZ10.out; have := SZ11.out; have := SZ12.out; have := SZ13.out; have := SZ16.out; have := SZ18.out; omega)).ext u16).upd U18.out (fun hb => by have := RG18.out _ hb; have := RS_6.out; have := SZ2.out; have := SZ3.out; have := SZ4.out; have := SA4.out; have := SZ5.out; have := SZ6.out; have := SZ7.out; have := SA7.out; have := SZ10.out; have := SZ11.out; have := SZ12.out; have := SZ13.out; have := SZ16.out; have := SZ18.out; omega))
  have cx19_0 := bx19.cell 0 (by simp)
  have cx19_1 := bx19.cell 1 (by simp)
  have cx19_2 := bx19.cell 2 (by simp)
  have cx19_3 := bx19.cell 3 (by simp)
  go_wp2_with fail
  refine (heldRounding_c _ V0 ys18 1 _ OM18.out.read MK18.out RS0.out (by omega)).mono ?_
  rw [HM0.out]
  rintro e w20 ⟨rfl, u20⟩
  have v20 := v18.trans u20
  have SZ20 := Lib.hid u20.size
  go_wp2_with fail
  refine (toIntSS_c _ xs0 _ (H0.out.ext v20) S0.out.len S0.out.row).mono ?_
  rintro e w21 ⟨x21, r21, rfl, o21, u21⟩
  have v21 := v20.trans u21
  have SZ21 := Lib.hid u21.size
  have O21 := Lib.hid o21
  clear o21
  have RS_21 := Lib.hid u21.size
  go_wp2_with fail
  refine (implFd_c _ xs0 a1 _ O21.out.grid ).mono ?_
  rw [HV0.out]
  rw [HV1.out]
  rintro e w22 ⟨x22, rfl, o22, u22⟩
  have v22 := v21.trans u22
  have SZ22 := Lib.hid u22.size
  have O22 := Lib.hid o22
  clear o22
  have RS_22 := Lib.hid u22.size
  obtain ⟨a22_0, cp22_0, a22_1, cp22_1, a22_2, cp22_2, hxx22, _, _, _⟩ := O22.out.read.form
  subst hxx22
  have bo22 := Box.new w22 44 #[.slice a22_0 V0.cells.length cp22_0, .slice a22_1 V0.rows.length cp22_1, .slice a22_2 V0.cols.length cp22_2, .int .i64 V0.total] rfl
  have u23 := (Ext.refl w22).alloc (.cells #[.slice a22_0 V0.cells.length cp22_0, .slice a22_1 V0.rows.length cp22_1, .slice a22_2 V0.cols.length cp22_2, .int .i64 V0.total] 44)
  have v23 := v22.trans u23
  have SZ23 := Lib.hid u23.size
  have SA23 : Hid ((w22.alloc (.cells #[.slice a22_0 V0.cells.length cp22_0, .slice a22_1 V0.rows.length cp22_1, .slice a22_2 V0.cols.length cp22_2, .int .i64 V0.total] 44)).heap.size = w22.heap.size + 1) := Lib.hid (by simp)
  have bx24 := bo22
  have cx24_0 := bx24.cell 0 (by simp)
  have cx24_1 := bx24.cell 1 (by simp)
  have cx24_2 := bx24.cell 2 (by simp)
  have cx24_3 := bx24.cell 3 (by simp)
  have bx25 := (((((((((((((bo3.ext u5).ext u6).ext u7).ext u10).ext u11).ext u12).upd U13.out (fun hb => by have := RG13.out _ hb; have := RS_5.out; have := SZ2.out; have := SZ3.out; have := SZ4.out; have := SA4.out; have := SZ5.out; have := SZ6.out; have := SZ7.out; have := SA7.out; have := SZ10.out; have := SZ11.out; have := SZ12.out; have := SZ13.out; have := SZ16.out; have := SZ18.out; have := SZ20.out; have := SZ21.out; have := SZ22.out; have := SZ23.out; have := SA23.out; omega)).ext u16).upd U18.out (fun hb => by have := RG18.out _ hb; have := RS_6.out; have := SZ2.out; have := SZ3.out; have := SZ4.out; have := SA4.out; have := SZ5.out; have := SZ6.out; have := SZ7.out; have := SA7.out; have := SZ10.out; have := SZ11.out; have := SZ12.out; have := SZ13.out; have := SZ16.out; have := SZ18.out; have := SZ20.out; have := SZ21.out; have := SZ22.out; have := SZ23.out; have := SA23.out; omega)).ext u20).ext u21).ext u22).ext u23)
  have cx25_0 := bx25.cell 0 (by simp)
  have cx25_1 := bx25.cell 1 (by simp)
  have cx25_2 := bx25.cell 2 (by simp)
  have cx25_3 := bx25.cell 3 (by simp)
  go_wp2_with fail
  refine (eqRounding_t _ _ V0 _ (O22.out.ext u23).read ((((((((((((((O3.out.ext u4).ext u5).ext u6).ext u7).ext u10).ext u11).ext u12).away U13.out (fun b hb => by have := RG13.out b hb; have := RS_5.out; have := RS_3.out; have := SZ2.out; have := SZ3.out; have := SZ4.out; have := SA4.out; have := SZ5.out; have := SZ6.out; have := SZ7.out; have := SA7.out; have := SZ10.out; have := SZ11.out; have := SZ12.out; have := SZ13.out; have := SZ16.out; have := SZ18.out; have := SZ20.out; have := SZ21.out; have := SZ22.out; have := SZ23.out; have := SA23.out; omega)).ext u16).away U18.out (fun b hb => by have := RG18.out b hb; have := RS_6.out; have := RS_3.out; have := SZ2.out; have := SZ3.out; have := SZ4.out; have := SA4.out; have := SZ5.out; have := SZ6.out; have := SZ7.out; have := SA7.out; have := SZ10.out; have := SZ11.out; have := SZ12.out; have := SZ13.out; have := SZ16.out; have := SZ18.out; have := SZ20.out; have := SZ21.out; have := SZ22.out; have := SZ23.out; have := SA23.out; omega)).ext u20).ext u21).ext u22).ext u23).read).mono ?_
  rintro e w26 ⟨rfl, u26⟩
  have v26 := v23.trans u26
  have SZ26 := Lib.hid u26.size
  have bx27 := (((((((((((bo6.ext u10).ext u11).ext u12).upd U13.out (fun hb => by have := RG13.out _ hb; have := RS_5.out; have := SZ2.out; have := SZ3.out; have := SZ4.out; have := SA4.out; have := SZ5.out; have := SZ6.out; have := SZ7.out; have := SA7.out; have := SZ10.out; have := SZ11.out; have := SZ12.out; have := SZ13.out; have := SZ16.out; have := SZ18.out; have := SZ20.out; have := SZ21.out; have := SZ22.out; have := SZ23.out; have := SA23.out; have := SZ26.out; omega)).ext u16).upd U18.out (fun hb => by have := RG18.out _ hb; have := RS_6.out; have := SZ2.out; have := SZ3.out; have := SZ4.out; have := SA4.out; have := SZ5.out; have := SZ6.out; have := SZ7.out; have := SA7.out; have := SZ10.out; have := SZ11.out; have := SZ12.out; have := SZ13.out; have := SZ16.out; have := SZ18.out; have := SZ20.out; have := SZ21.out; have := SZ22.out; have := SZ23.out; have := SA23.out; have := SZ26.out; omega)).ext u20).ext u21).ext u22).ext u23).ext u26)
  have cx27_0 := bx27.cell 0 (by simp)
  have cx27_1 := bx27.cell 1 (by simp)
  have cx27_2 := bx27.cell 2 (by simp)
  have cx27_3 := bx27.cell 3 (by simp)
  go_wp2_with fail
  refine (heldRounding_c _ V0 ys18 1 _ (((((OM18.out.ext u20).ext u21).ext u22).ext u23).ext u26).read MK18.out RS0.out (by omega)).mono ?_
  rw [HM0.out]
  rintro e w28 ⟨rfl, u28⟩
  have v28 := v26.trans u28
  have SZ28 := Lib.hid u28.size
  go_wp2
  go_ret
  exact ⟨rfl, v28⟩
end Go.Proofs.Ytjpomfdmgaambaa
