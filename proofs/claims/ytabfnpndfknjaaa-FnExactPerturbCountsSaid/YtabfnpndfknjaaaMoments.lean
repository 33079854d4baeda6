/- The mean and the variance of a noise table's row. -/
import Derived.Test.YtabfnpndfknjaaaNoiseOf
import Derived.Test.YtabfnpndfknjaaaFrac
import Derived.Deep.RegionHeld3
namespace Go.Proofs.Ytabfnpndfknjaaa
open Go.RowKit

def sq (xs : List Int) : Int := (xs.map fun x => x * x).sum
theorem sq_take_succ {xs : List Int} {k : Nat} (h : k < xs.length) : sq (xs.take (k + 1)) = sq (xs.take k) + ix xs k * ix xs k := by
  rw [take_succ_ix h]; simp [sq]
theorem mul5 {x : Int} (h : -5 ≤ x ∧ x ≤ 5) : 0 ≤ x * x ∧ x * x ≤ 25 := by
  have : x = -5 ∨ x = -4 ∨ x = -3 ∨ x = -2 ∨ x = -1 ∨ x = 0 ∨ x = 1 ∨ x = 2 ∨ x = 3 ∨ x = 4 ∨ x = 5 := by omega
  rcases this with rfl | rfl | rfl | rfl | rfl | rfl | rfl | rfl | rfl | rfl | rfl <;> decide
theorem sq_bound {xs : List Int} (h : ∀ x ∈ xs, -5 ≤ x ∧ x ≤ 5) : 0 ≤ sq xs ∧ sq xs ≤ 25 * xs.length := by
  refine sum_nonneg_le (B := 25) (xs := xs.map fun x => x * x) (fun y hy => ?_) |>.imp id (fun h => by simpa [sq] using h)
  obtain ⟨x, hx, rfl⟩ := List.mem_map.1 hy
  exact mul5 (h x hx)
/-- sixteen small elements -/
def Row16 (r : List Int) : Prop := r.length = 16 ∧ ∀ x ∈ r, -5 ≤ x ∧ x ≤ 5
theorem Row16.of_nt {xss : List (List Int)} {count : Int} (h : ntOk xss) : Row16 (rowAt xss (ntIdx xss count)) := by
  have h1 := (h.2.2 _ (ntIdx_lt (count := count) h))
  refine ⟨h1.1, fun x hx => ?_⟩
  have h2 := (ntRow_iff.1 h1).2.1
  have := allIn_mem h2 hx
  have := imax_cases (-(ntIdx xss count : Int)) (-5)
  omega
theorem Row16.sums {r : List Int} (h : Row16 r) (k : Nat) : -80 ≤ (r.take k).sum ∧ (r.take k).sum ≤ 80 ∧ 0 ≤ sq (r.take k) ∧ sq (r.take k) ≤ 400 := by
  have h1 := sum_abs_le (B := 5) (xs := r.take k) (fun x hx => h.2 x (List.mem_of_mem_take hx))
  have h2 := sq_bound (xs := r.take k) (fun x hx => h.2 x (List.mem_of_mem_take hx))
  have h3 : (r.take k).length ≤ 16 := by rw [← h.1]; simp; omega
  omega
theorem Row16.sumOk {r : List Int} (h : Row16 r) : SumOk r := fun k => by have := h.sums k; omega
theorem Row16.total {r : List Int} (h : Row16 r) : -80 ≤ r.sum ∧ r.sum ≤ 80 ∧ 0 ≤ sq r ∧ sq r ≤ 400 := by
  have := h.sums r.length; rwa [List.take_length] at this
theorem sq80 {x : Int} (h : -80 ≤ x ∧ x ≤ 80) : 0 ≤ x * x ∧ x * x ≤ 6400 := by
  have h1 : x * x = (x.natAbs * x.natAbs : Nat) := by rw [Int.natAbs_mul_self]
  have h2 : x.natAbs * x.natAbs ≤ 80 * 80 := Nat.mul_le_mul (by omega) (by omega)
  omega

/-- the three results, of a test and a fraction -/
def mB (ok : Bool) (n d : Int) : Bool := ok && fB n d
def mN (ok : Bool) (n d : Int) : Int := if ok = true then fVN n d else 0
def mD (ok : Bool) (n d : Int) : Int := if ok = true then fVD n d else 0
noncomputable def mOk (xss : List (List Int)) (count : Int) : Bool := ntB xss && decide (0 ≤ count)
noncomputable def meanN (xss : List (List Int)) (count : Int) : Int := (rowAt xss (ntIdx xss count)).sum
noncomputable def varN (xss : List (List Int)) (count : Int) : Int := sq (rowAt xss (ntIdx xss count)) * 16 - (rowAt xss (ntIdx xss count)).sum * (rowAt xss (ntIdx xss count)).sum

set_option maxHeartbeats 400000 in
theorem yMoments_c (v : Value) (xs : List Int) (w : World) (h : Ints w v xs) (hs : Row16 xs) :
    Calls Try.prog 69 #[v] w fun e w' => e = .returned (.tuple #[.int .i64 xs.sum, .int .i64 (sq xs)]) ∧ w' = w := by
  obtain ⟨ao, cap, rfl, h1, h2, h3⟩ := h
  have G := Lib.hid h3; clear h3
  have HS := Lib.hid hs; clear hs
  go_enter Try.func69, Try.ntmps69
  go_wp2
  go_loop [4, 5, 10] (fun s t i => ∃ k : Nat, k ≤ xs.length ∧ i = .int .i64 k ∧ s = .int .i64 (xs.take k).sum ∧ t = .int .i64 (sq (xs.take k))) (fun _ _ i => xs.length - (intOf i).toNat)
  case atStart => exact ⟨0, Nat.zero_le _, rfl, by simp, by simp [sq]⟩
  case round =>
    obtain ⟨k, hk, rfl, rfl, rfl⟩ := hrel
    by_cases hlt : k < xs.length
    · obtain ⟨b, o, rfl, hc⟩ := G.out k hlt
      have b1 := HS.out.sums k
      have b2 := HS.out.sums (k + 1)
      have b3 := HS.out.2 _ (ix_mem hlt)
      have b4 := mul5 b3
      have e2 := Lib.hid (sum_take_succ hlt)
      have e3 := Lib.hid (sq_take_succ hlt)
      rw [e2.out, e3.out] at b2
      go_wp2
      go_round
      case rel => exact ⟨k + 1, by omega, by go_num, by rw [e2.out], by rw [e3.out]⟩
      case measure => simp [intOf]; omega
    · go_wp2
      go_ret2
      exact ⟨by rw [List.take_of_length_le (by omega)]; rfl, rfl⟩

set_option maxHeartbeats 1600000 in
theorem specMean_c (v : Value) (xss : List (List Int)) (count : Int) (w : World) (h : Grid w v xss) (hc : count ≤ 9223372036854775807) :
    Calls Try.prog 35 #[.agg #[v], .int .i64 count] w fun e w' => e = .returned (.tuple #[.agg #[.int .i64 (mN (mOk xss count) (meanN xss count) 16), .int .i64 (mD (mOk xss count) (meanN xss count) 16)], .bool (mB (mOk xss count) (meanN xss count) 16)]) ∧ Ext w w' := by
  have H := Lib.hid h
  obtain ⟨ao, cap, rfl, h1, h2, h3⟩ := h
  clear h3
  have u0 := ((Ext.refl w).alloc (.cells #[.slice ao xss.length cap] 46)).alloc (.cells #[.int .i64 0, .int .i64 0] 24)
  have b0 := (Box.new w 46 #[.slice ao xss.length cap] rfl).alloc (.cells #[.int .i64 0, .int .i64 0] 24)
  have r0 : Box ((w.alloc (.cells #[.slice ao xss.length cap] 46)).alloc (.cells #[.int .i64 0, .int .i64 0] 24)) (w.heap.size + 1) 24 #[.int .i64 0, .int .i64 0] := by
    have := Box.new (w.alloc (.cells #[.slice ao xss.length cap] 46)) 24 #[.int .i64 0, .int .i64 0] rfl
    simpa using this
  cases hb : ntB xss
  · have HB := Lib.hid hb; clear hb
    have hok : mOk xss count = false := by simp only [mOk, HB.out]; simp
    have hB : ∀ n d, mB (mOk xss count) n d = false := fun n d => by simp [mB, hok]
    have hN : ∀ n d, mN (mOk xss count) n d = 0 := fun n d => by simp [mN, hok]
    have hD : ∀ n d, mD (mOk xss count) n d = 0 := fun n d => by simp [mD, hok]
    rw [hB, hN, hD]
    clear hok hB hN hD
    go_enter Try.func35, Try.ntmps35
    go_wp2_with fail
    refine (yGood_b false _ xss _ HB.out (H.out.ext u0)).mono ?_
    rintro e w1 ⟨rfl, u1⟩
    have r1 := r0.ext u1
    have c0 := r1.cell 0 (by simp)
    have c1 := r1.cell 1 (by simp)
    have f0 := r1.free 0
    have f1 := r1.free 1
    go_wp2
    refine bodyPost_ret (v := .tuple #[.agg #[.int .i64 0, .int .i64 0], .bool false]) (by simp [results, Try.results35, go_sem, c0, c1]) rfl ⟨rfl, ?_⟩
    exact ((u0.trans u1).setCell _ (by simp)).setCell _ (by simp)
  · have HB := Lib.hid hb; clear hb
    by_cases hc0 : count < 0
    · have hok : mOk xss count = false := by simp only [mOk, HB.out]; simp; omega
      have hB : ∀ n d, mB (mOk xss count) n d = false := fun n d => by simp [mB, hok]
      have hN : ∀ n d, mN (mOk xss count) n d = 0 := fun n d => by simp [mN, hok]
      have hD : ∀ n d, mD (mOk xss count) n d = 0 := fun n d => by simp [mD, hok]
      rw [hB, hN, hD]
      clear hok hB hN hD
      go_enter Try.func35, Try.ntmps35
      go_wp2_with fail
      refine (yGood_b true _ xss _ HB.out (H.out.ext u0)).mono ?_
      rintro e w1 ⟨rfl, u1⟩
      have r1 := r0.ext u1
      have c0 := r1.cell 0 (by simp)
      have c1 := r1.cell 1 (by simp)
      have f0 := r1.free 0
      have f1 := r1.free 1
      go_wp2
      refine bodyPost_ret (v := .tuple #[.agg #[.int .i64 0, .int .i64 0], .bool false]) (by simp [results, Try.results35, go_sem, c0, c1]) rfl ⟨rfl, ?_⟩
      exact ((u0.trans u1).setCell _ (by simp)).setCell _ (by simp)
    · have hok : mOk xss count = true := by simp only [mOk, HB.out]; simp; omega
      have hB : ∀ n d, mB (mOk xss count) n d = fB n d := fun n d => by simp [mB, hok]
      have hN : ∀ n d, mN (mOk xss count) n d = fVN n d := fun n d => by simp [mN, hok]
      have hD : ∀ n d, mD (mOk xss count) n d = fVD n d := fun n d => by simp [mD, hok]
      rw [hB, hN, hD]
      clear hok hB hN hD
      have HR := Lib.hid (Row16.of_nt (count := count) (ntB_true.1 HB.out))
      obtain ⟨r, hr⟩ : ∃ r, r = rowAt xss (ntIdx xss count) := ⟨_, rfl⟩
      have hnn : meanN xss count = r.sum := by rw [hr]; rfl
      rw [hnn]; clear hnn
      have HR2 : Hid (Row16 r) := Lib.hid (by rw [hr]; exact HR.out)
      have ht := HR2.out.total
      have HRR := Lib.hid hr; clear hr
      go_enter Try.func35, Try.ntmps35
      go_wp2_with fail
      refine (yGood_b true _ xss _ HB.out (H.out.ext u0)).mono ?_
      rintro e w1 ⟨rfl, u1⟩
      have c1 := (b0.ext u1).cell 0 (by simp)
      go_wp2_with fail
      refine (yRow_c _ xss count _ (H.out.ext (u0.trans u1)) (ntB_true.1 HB.out) (by omega)).mono ?_
      rw [← HRR.out]
      rintro e w2 ⟨ar, cr, rfl, q1, q2, q3, u2⟩
      have Q3 : Hid (Ints w2 (.slice ar r.length cr) r) := Lib.hid ⟨ar, cr, rfl, q1, q2, q3⟩
      clear q3
      have u12 := (u0.trans u1).trans u2
      go_wp2_with fail
      refine (yMoments_c _ r _ Q3.out HR2.out).mono ?_
      rintro e w' ⟨rfl, rfl⟩
      go_wp2_with fail
      refine (fMake_c r.sum 16 _ (by decide) (by unfold InR; omega) (by unfold InR; omega)).mono ?_
      rintro e w3 ⟨rfl, u3⟩
      have r3 := (((r0.ext u1).ext u2).ext u3)
      have c30 := r3.cell 0 (by simp)
      have c31 := r3.cell 1 (by simp)
      have f0 := r3.free 0
      have f1 := r3.free 1
      go_wp2
      refine bodyPost_ret (v := .tuple #[.agg #[.int .i64 (fVN r.sum 16), .int .i64 (fVD r.sum 16)], .bool (fB r.sum 16)]) (by simp [results, Try.results35, go_sem, c30, c31]) rfl ⟨rfl, ?_⟩
      exact ((u12.trans u3).setCell _ (by simp)).setCell _ (by simp)
set_option maxHeartbeats 1600000 in
theorem specVariance_c (v : Value) (xss : List (List Int)) (count : Int) (w : World) (h : Grid w v xss) (hc : count ≤ 9223372036854775807) :
    Calls Try.prog 37 #[.agg #[v], .int .i64 count] w fun e w' => e = .returned (.tuple #[.agg #[.int .i64 (mN (mOk xss count) (varN xss count) 256), .int .i64 (mD (mOk xss count) (varN xss count) 256)], .bool (mB (mOk xss count) (varN xss count) 256)]) ∧ Ext w w' := by
  have H := Lib.hid h
  obtain ⟨ao, cap, rfl, h1, h2, h3⟩ := h
  clear h3
  have u0 := ((Ext.refl w).alloc (.cells #[.slice ao xss.length cap] 46)).alloc (.cells #[.int .i64 0, .int .i64 0] 24)
  have b0 := (Box.new w 46 #[.slice ao xss.length cap] rfl).alloc (.cells #[.int .i64 0, .int .i64 0] 24)
  have r0 : Box ((w.alloc (.cells #[.slice ao xss.length cap] 46)).alloc (.cells #[.int .i64 0, .int .i64 0] 24)) (w.heap.size + 1) 24 #[.int .i64 0, .int .i64 0] := by
    have := Box.new (w.alloc (.cells #[.slice ao xss.length cap] 46)) 24 #[.int .i64 0, .int .i64 0] rfl
    simpa using this
  cases hb : ntB xss
  · have HB := Lib.hid hb; clear hb
    have hok : mOk xss count = false := by simp only [mOk, HB.out]; simp
    have hB : ∀ n d, mB (mOk xss count) n d = false := fun n d => by simp [mB, hok]
    have hN : ∀ n d, mN (mOk xss count) n d = 0 := fun n d => by simp [mN, hok]
    have hD : ∀ n d, mD (mOk xss count) n d = 0 := fun n d => by simp [mD, hok]
    rw [hB, hN, hD]
    clear hok hB hN hD
    go_enter Try.func37, Try.ntmps37
    go_wp2_with fail
    refine (yGood_b false _ xss _ HB.out (H.out.ext u0)).mono ?_
    rintro e w1 ⟨rfl, u1⟩
    have r1 := r0.ext u1
    have c0 := r1.cell 0 (by simp)
    have c1 := r1.cell 1 (by simp)
    have f0 := r1.free 0
    have f1 := r1.free 1
    go_wp2
    refine bodyPost_ret (v := .tuple #[.agg #[.int .i64 0, .int .i64 0], .bool false]) (by simp [results, Try.results37, go_sem, c0, c1]) rfl ⟨rfl, ?_⟩
    exact ((u0.trans u1).setCell _ (by simp)).setCell _ (by simp)
  · have HB := Lib.hid hb; clear hb
    by_cases hc0 : count < 0
    · have hok : mOk xss count = false := by simp only [mOk, HB.out]; simp; omega
      have hB : ∀ n d, mB (mOk xss count) n d = false := fun n d => by simp [mB, hok]
      have hN : ∀ n d, mN (mOk xss count) n d = 0 := fun n d => by simp [mN, hok]
      have hD : ∀ n d, mD (mOk xss count) n d = 0 := fun n d => by simp [mD, hok]
      rw [hB, hN, hD]
      clear hok hB hN hD
      go_enter Try.func37, Try.ntmps37
      go_wp2_with fail
      refine (yGood_b true _ xss _ HB.out (H.out.ext u0)).mono ?_
      rintro e w1 ⟨rfl, u1⟩
      have r1 := r0.ext u1
      have c0 := r1.cell 0 (by simp)
      have c1 := r1.cell 1 (by simp)
      have f0 := r1.free 0
      have f1 := r1.free 1
      go_wp2
      refine bodyPost_ret (v := .tuple #[.agg #[.int .i64 0, .int .i64 0], .bool false]) (by simp [results, Try.results37, go_sem, c0, c1]) rfl ⟨rfl, ?_⟩
      exact ((u0.trans u1).setCell _ (by simp)).setCell _ (by simp)
    · have hok : mOk xss count = true := by simp only [mOk, HB.out]; simp; omega
      have hB : ∀ n d, mB (mOk xss count) n d = fB n d := fun n d => by simp [mB, hok]
      have hN : ∀ n d, mN (mOk xss count) n d = fVN n d := fun n d => by simp [mN, hok]
      have hD : ∀ n d, mD (mOk xss count) n d = fVD n d := fun n d => by simp [mD, hok]
      rw [hB, hN, hD]
      clear hok hB hN hD
      have HR := Lib.hid (Row16.of_nt (count := count) (ntB_true.1 HB.out))
      obtain ⟨r, hr⟩ : ∃ r, r = rowAt xss (ntIdx xss count) := ⟨_, rfl⟩
      have hnn : varN xss count = sq r * 16 - r.sum * r.sum := by rw [hr]; rfl
      rw [hnn]; clear hnn
      have HR2 : Hid (Row16 r) := Lib.hid (by rw [hr]; exact HR.out)
      have ht := HR2.out.total
      have ht2 := sq80 (x := r.sum) (by omega)
      have HRR := Lib.hid hr; clear hr
      go_enter Try.func37, Try.ntmps37
      go_wp2_with fail
      refine (yGood_b true _ xss _ HB.out (H.out.ext u0)).mono ?_
      rintro e w1 ⟨rfl, u1⟩
      have c1 := (b0.ext u1).cell 0 (by simp)
      go_wp2_with fail
      refine (yRow_c _ xss count _ (H.out.ext (u0.trans u1)) (ntB_true.1 HB.out) (by omega)).mono ?_
      rw [← HRR.out]
      rintro e w2 ⟨ar, cr, rfl, q1, q2, q3, u2⟩
      have Q3 : Hid (Ints w2 (.slice ar r.length cr) r) := Lib.hid ⟨ar, cr, rfl, q1, q2, q3⟩
      clear q3
      have u12 := (u0.trans u1).trans u2
      go_wp2_with fail
      refine (yMoments_c _ r _ Q3.out HR2.out).mono ?_
      rintro e w' ⟨rfl, rfl⟩
      go_wp2_with fail
      refine (fMake_c (sq r * 16 - r.sum * r.sum) 256 _ (by decide) (by unfold InR; omega) (by unfold InR; omega)).mono ?_
      rintro e w3 ⟨rfl, u3⟩
      have r3 := (((r0.ext u1).ext u2).ext u3)
      have c30 := r3.cell 0 (by simp)
      have c31 := r3.cell 1 (by simp)
      have f0 := r3.free 0
      have f1 := r3.free 1
      go_wp2
      refine bodyPost_ret (v := .tuple #[.agg #[.int .i64 (fVN (sq r * 16 - r.sum * r.sum) 256), .int .i64 (fVD (sq r * 16 - r.sum * r.sum) 256)], .bool (fB (sq r * 16 - r.sum * r.sum) 256)]) (by simp [results, Try.results37, go_sem, c30, c31]) rfl ⟨rfl, ?_⟩
      exact ((u12.trans u3).setCell _ (by simp)).setCell _ (by simp)
set_option maxHeartbeats 1600000 in
theorem implMean_c (v : Value) (xss : List (List Int)) (count : Int) (w : World) (h : Grid w v xss) (hc : count ≤ 9223372036854775807) :
    Calls Try.prog 36 #[.agg #[v], .int .i64 count] w fun e w' => e = .returned (.tuple #[.agg #[.int .i64 (mN (mOk xss count) (meanN xss count) 16), .int .i64 (mD (mOk xss count) (meanN xss count) 16)], .bool (mB (mOk xss count) (meanN xss count) 16)]) ∧ Ext w w' := by
  have H := Lib.hid h
  obtain ⟨ao, cap, rfl, h1, h2, h3⟩ := h
  clear h3
  have u0 := ((Ext.refl w).alloc (.cells #[.slice ao xss.length cap] 46)).alloc (.cells #[.int .i64 0, .int .i64 0] 24)
  have b0 := (Box.new w 46 #[.slice ao xss.length cap] rfl).alloc (.cells #[.int .i64 0, .int .i64 0] 24)
  have r0 : Box ((w.alloc (.cells #[.slice ao xss.length cap] 46)).alloc (.cells #[.int .i64 0, .int .i64 0] 24)) (w.heap.size + 1) 24 #[.int .i64 0, .int .i64 0] := by
    have := Box.new (w.alloc (.cells #[.slice ao xss.length cap] 46)) 24 #[.int .i64 0, .int .i64 0] rfl
    simpa using this
  cases hb : ntB xss
  · have HB := Lib.hid hb; clear hb
    have hok : mOk xss count = false := by simp only [mOk, HB.out]; simp
    have hB : ∀ n d, mB (mOk xss count) n d = false := fun n d => by simp [mB, hok]
    have hN : ∀ n d, mN (mOk xss count) n d = 0 := fun n d => by simp [mN, hok]
    have hD : ∀ n d, mD (mOk xss count) n d = 0 := fun n d => by simp [mD, hok]
    rw [hB, hN, hD]
    clear hok hB hN hD
    go_enter Try.func36, Try.ntmps36
    go_wp2_with fail
    refine (implIsNoiseTable_b false _ xss _ HB.out (H.out.ext u0)).mono ?_
    rintro e w1 ⟨rfl, u1⟩
    have r1 := r0.ext u1
    have c0 := r1.cell 0 (by simp)
    have c1 := r1.cell 1 (by simp)
    have f0 := r1.free 0
    have f1 := r1.free 1
    go_wp2
    refine bodyPost_ret (v := .tuple #[.agg #[.int .i64 0, .int .i64 0], .bool false]) (by simp [results, Try.results36, go_sem, c0, c1]) rfl ⟨rfl, ?_⟩
    exact ((u0.trans u1).setCell _ (by simp)).setCell _ (by simp)
  · have HB := Lib.hid hb; clear hb
    by_cases hc0 : count < 0
    · have hok : mOk xss count = false := by simp only [mOk, HB.out]; simp; omega
      have hB : ∀ n d, mB (mOk xss count) n d = false := fun n d => by simp [mB, hok]
      have hN : ∀ n d, mN (mOk xss count) n d = 0 := fun n d => by simp [mN, hok]
      have hD : ∀ n d, mD (mOk xss count) n d = 0 := fun n d => by simp [mD, hok]
      rw [hB, hN, hD]
      clear hok hB hN hD
      go_enter Try.func36, Try.ntmps36
      go_wp2_with fail
      refine (implIsNoiseTable_b true _ xss _ HB.out (H.out.ext u0)).mono ?_
      rintro e w1 ⟨rfl, u1⟩
      have r1 := r0.ext u1
      have c0 := r1.cell 0 (by simp)
      have c1 := r1.cell 1 (by simp)
      have f0 := r1.free 0
      have f1 := r1.free 1
      go_wp2
      refine bodyPost_ret (v := .tuple #[.agg #[.int .i64 0, .int .i64 0], .bool false]) (by simp [results, Try.results36, go_sem, c0, c1]) rfl ⟨rfl, ?_⟩
      exact ((u0.trans u1).setCell _ (by simp)).setCell _ (by simp)
    · have hok : mOk xss count = true := by simp only [mOk, HB.out]; simp; omega
      have hB : ∀ n d, mB (mOk xss count) n d = fB n d := fun n d => by simp [mB, hok]
      have hN : ∀ n d, mN (mOk xss count) n d = fVN n d := fun n d => by simp [mN, hok]
      have hD : ∀ n d, mD (mOk xss count) n d = fVD n d := fun n d => by simp [mD, hok]
      rw [hB, hN, hD]
      clear hok hB hN hD
      have HR := Lib.hid (Row16.of_nt (count := count) (ntB_true.1 HB.out))
      obtain ⟨r, hr⟩ : ∃ r, r = rowAt xss (ntIdx xss count) := ⟨_, rfl⟩
      have hnn : meanN xss count = r.sum := by rw [hr]; rfl
      rw [hnn]; clear hnn
      have HR2 : Hid (Row16 r) := Lib.hid (by rw [hr]; exact HR.out)
      have ht := HR2.out.total
      have HRR := Lib.hid hr; clear hr
      go_enter Try.func36, Try.ntmps36
      go_wp2_with fail
      refine (implIsNoiseTable_b true _ xss _ HB.out (H.out.ext u0)).mono ?_
      rintro e w1 ⟨rfl, u1⟩
      have c1 := (b0.ext u1).cell 0 (by simp)
      go_wp2_with fail
      refine (rowFor_c _ xss count _ (H.out.ext (u0.trans u1)) (ntB_true.1 HB.out) (by omega)).mono ?_
      rw [← HRR.out]
      rintro e w2 ⟨ar, cr, rfl, q1, q2, q3, u2⟩
      have Q3 : Hid (Ints w2 (.slice ar r.length cr) r) := Lib.hid ⟨ar, cr, rfl, q1, q2, q3⟩
      clear q3
      have u12 := (u0.trans u1).trans u2
      go_wp2_with fail
      refine (total_c _ r _ Q3.out HR2.out.sumOk).mono ?_
      rintro e w' ⟨rfl, rfl⟩
      go_wp2_with fail
      refine (reduced_c r.sum 16 _ (by decide) (by unfold InR; omega) (by unfold InR; omega)).mono ?_
      rintro e w3 ⟨rfl, u3⟩
      have r3 := (((r0.ext u1).ext u2).ext u3)
      have c30 := r3.cell 0 (by simp)
      have c31 := r3.cell 1 (by simp)
      have f0 := r3.free 0
      have f1 := r3.free 1
      go_wp2
      refine bodyPost_ret (v := .tuple #[.agg #[.int .i64 (fVN r.sum 16), .int .i64 (fVD r.sum 16)], .bool (fB r.sum 16)]) (by simp [results, Try.results36, go_sem, c30, c31]) rfl ⟨rfl, ?_⟩
      exact ((u12.trans u3).setCell _ (by simp)).setCell _ (by simp)
set_option maxHeartbeats 1600000 in
theorem implVariance_c (v : Value) (xss : List (List Int)) (count : Int) (w : World) (h : Grid w v xss) (hc : count ≤ 9223372036854775807) :
    Calls Try.prog 38 #[.agg #[v], .int .i64 count] w fun e w' => e = .returned (.tuple #[.agg #[.int .i64 (mN (mOk xss count) (varN xss count) 256), .int .i64 (mD (mOk xss count) (varN xss count) 256)], .bool (mB (mOk xss count) (varN xss count) 256)]) ∧ Ext w w' := by
  have H := Lib.hid h
  obtain ⟨ao, cap, rfl, h1, h2, h3⟩ := h
  clear h3
  have u0 := ((Ext.refl w).alloc (.cells #[.slice ao xss.length cap] 46)).alloc (.cells #[.int .i64 0, .int .i64 0] 24)
  have b0 := (Box.new w 46 #[.slice ao xss.length cap] rfl).alloc (.cells #[.int .i64 0, .int .i64 0] 24)
  have r0 : Box ((w.alloc (.cells #[.slice ao xss.length cap] 46)).alloc (.cells #[.int .i64 0, .int .i64 0] 24)) (w.heap.size + 1) 24 #[.int .i64 0, .int .i64 0] := by
    have := Box.new (w.alloc (.cells #[.slice ao xss.length cap] 46)) 24 #[.int .i64 0, .int .i64 0] rfl
    simpa using this
  cases hb : ntB xss
  · have HB := Lib.hid hb; clear hb
    have hok : mOk xss count = false := by simp only [mOk, HB.out]; simp
    have hB : ∀ n d, mB (mOk xss count) n d = false := fun n d => by simp [mB, hok]
    have hN : ∀ n d, mN (mOk xss count) n d = 0 := fun n d => by simp [mN, hok]
    have hD : ∀ n d, mD (mOk xss count) n d = 0 := fun n d => by simp [mD, hok]
    rw [hB, hN, hD]
    clear hok hB hN hD
    go_enter Try.func38, Try.ntmps38
    go_wp2_with fail
    refine (implIsNoiseTable_b false _ xss _ HB.out (H.out.ext u0)).mono ?_
    rintro e w1 ⟨rfl, u1⟩
    have r1 := r0.ext u1
    have c0 := r1.cell 0 (by simp)
    have c1 := r1.cell 1 (by simp)
    have f0 := r1.free 0
    have f1 := r1.free 1
    go_wp2
    refine bodyPost_ret (v := .tuple #[.agg #[.int .i64 0, .int .i64 0], .bool false]) (by simp [results, Try.results38, go_sem, c0, c1]) rfl ⟨rfl, ?_⟩
    exact ((u0.trans u1).setCell _ (by simp)).setCell _ (by simp)
  · have HB := Lib.hid hb; clear hb
    by_cases hc0 : count < 0
    · have hok : mOk xss count = false := by simp only [mOk, HB.out]; simp; omega
      have hB : ∀ n d, mB (mOk xss count) n d = false := fun n d => by simp [mB, hok]
      have hN : ∀ n d, mN (mOk xss count) n d = 0 := fun n d => by simp [mN, hok]
      have hD : ∀ n d, mD (mOk xss count) n d = 0 := fun n d => by simp [mD, hok]
      rw [hB, hN, hD]
      clear hok hB hN hD
      go_enter Try.func38, Try.ntmps38
      go_wp2_with fail
      refine (implIsNoiseTable_b true _ xss _ HB.out (H.out.ext u0)).mono ?_
      rintro e w1 ⟨rfl, u1⟩
      have r1 := r0.ext u1
      have c0 := r1.cell 0 (by simp)
      have c1 := r1.cell 1 (by simp)
      have f0 := r1.free 0
      have f1 := r1.free 1
      go_wp2
      refine bodyPost_ret (v := .tuple #[.agg #[.int .i64 0, .int .i64 0], .bool false]) (by simp [results, Try.results38, go_sem, c0, c1]) rfl ⟨rfl, ?_⟩
      exact ((u0.trans u1).setCell _ (by simp)).setCell _ (by simp)
    · have hok : mOk xss count = true := by simp only [mOk, HB.out]; simp; omega
      have hB : ∀ n d, mB (mOk xss count) n d = fB n d := fun n d => by simp [mB, hok]
      have hN : ∀ n d, mN (mOk xss count) n d = fVN n d := fun n d => by simp [mN, hok]
      have hD : ∀ n d, mD (mOk xss count) n d = fVD n d := fun n d => by simp [mD, hok]
      rw [hB, hN, hD]
      clear hok hB hN hD
      have HR := Lib.hid (Row16.of_nt (count := count) (ntB_true.1 HB.out))
      obtain ⟨r, hr⟩ : ∃ r, r = rowAt xss (ntIdx xss count) := ⟨_, rfl⟩
      have hnn : varN xss count = sq r * 16 - r.sum * r.sum := by rw [hr]; rfl
      rw [hnn]; clear hnn
      have HR2 : Hid (Row16 r) := Lib.hid (by rw [hr]; exact HR.out)
      have ht := HR2.out.total
      have ht2 := sq80 (x := r.sum) (by omega)
      have HRR := Lib.hid hr; clear hr
      go_enter Try.func38, Try.ntmps38
      go_wp2_with fail
      refine (implIsNoiseTable_b true _ xss _ HB.out (H.out.ext u0)).mono ?_
      rintro e w1 ⟨rfl, u1⟩
      have c1 := (b0.ext u1).cell 0 (by simp)
      go_wp2_with fail
      refine (rowFor_c _ xss count _ (H.out.ext (u0.trans u1)) (ntB_true.1 HB.out) (by omega)).mono ?_
      rw [← HRR.out]
      rintro e w2 ⟨ar, cr, rfl, q1, q2, q3, u2⟩
      have Q3 : Hid (Ints w2 (.slice ar r.length cr) r) := Lib.hid ⟨ar, cr, rfl, q1, q2, q3⟩
      have G := Lib.hid q3
      clear q3
      have u12 := (u0.trans u1).trans u2
      go_wp2_with fail
      refine (total_c _ r _ Q3.out HR2.out.sumOk).mono ?_
      rintro e w' ⟨rfl, rfl⟩
      go_wp2
      go_loop [7, 26] (fun s i => ∃ k : Nat, k ≤ r.length ∧ i = .int .i64 k ∧ s = .int .i64 (sq (r.take k))) (fun _ i => r.length - (intOf i).toNat)
      case atStart => exact ⟨0, Nat.zero_le _, rfl, by simp [sq]⟩
      obtain ⟨k, hk, rfl, rfl⟩ := hrel
      by_cases hlt : k < r.length
      · obtain ⟨b, o, rfl, hcl⟩ := G.out k hlt
        have b1 := HR2.out.sums k
        have b2 := HR2.out.sums (k + 1)
        have b4 := mul5 (HR2.out.2 _ (ix_mem hlt))
        have b3 := HR2.out.2 _ (ix_mem hlt)
        have e3 := Lib.hid (sq_take_succ hlt)
        rw [e3.out] at b2
        go_wp2
        go_round
        case rel => exact ⟨k + 1, by omega, by go_num, by rw [e3.out]⟩
        case measure => simp [intOf]; omega
      have hkk : sq (r.take k) = sq r := by rw [List.take_of_length_le (by omega)]
      rw [hkk]
      clear hkk
      go_wp2_with fail
      refine (reduced_c (sq r * 16 - r.sum * r.sum) 256 _ (by decide) (by unfold InR; omega) (by unfold InR; omega)).mono ?_
      rintro e w3 ⟨rfl, u3⟩
      have r3 := (((r0.ext u1).ext u2).ext u3)
      have c30 := r3.cell 0 (by simp)
      have c31 := r3.cell 1 (by simp)
      have f0 := r3.free 0
      have f1 := r3.free 1
      go_wp2
      refine bodyPost_ret (v := .tuple #[.agg #[.int .i64 (fVN (sq r * 16 - r.sum * r.sum) 256), .int .i64 (fVD (sq r * 16 - r.sum * r.sum) 256)], .bool (fB (sq r * 16 - r.sum * r.sum) 256)]) (by simp [results, Try.results38, go_sem, c30, c31]) rfl ⟨rfl, ?_⟩
      exact ((u12.trans u3).setCell _ (by simp)).setCell _ (by simp)

theorem eqFrac_b (b : Bool) (n1 d1 n2 d2 : Int) (w : World) (hb : decide (n1 = n2 ∧ d1 = d2) = b) :
    Calls Try.prog 22 #[.agg #[.int .i64 n1, .int .i64 d1], .agg #[.int .i64 n2, .int .i64 d2]] w fun e w' => e = .returned (.bool b) ∧ Ext w w' := by
  subst hb
  have u0 := ((Ext.refl w).alloc (.cells #[.int .i64 n1, .int .i64 d1] 24)).alloc (.cells #[.int .i64 n2, .int .i64 d2] 24)
  by_cases h1 : n1 = n2
  · subst h1
    by_cases h2 : d1 = d2
    · subst h2
      go_enter Try.func22, Try.ntmps22
      go_wp2
      go_ret
      exact ⟨by simp, u0⟩
    · have hd : (d1 != d2) = true := by simp [h2]
      go_enter Try.func22, Try.ntmps22
      go_wp2
      go_ret
      exact ⟨by simp [h2], u0⟩
  · have hd : (n1 != n2) = true := by simp [h1]
    go_enter Try.func22, Try.ntmps22
    go_wp2
    go_ret
    exact ⟨by simp [h1], u0⟩

set_option maxHeartbeats 1600000 in
theorem lawMean_c (v : Value) (xss : List (List Int)) (count : Int) (w : World) (h : Grid w v xss) (_ : WfG xss) (hc : -9223372036854775808 ≤ count ∧ count ≤ 9223372036854775807) :
    Calls Try.prog 7 #[.agg #[v], .int .i64 count] w fun e w' => e = .returned (.bool true) ∧ Ext w w' := by
  have H := Lib.hid h
  have HC := Lib.hid hc.2; clear hc
  obtain ⟨ao, cap, rfl, h1, h2, h3⟩ := h
  clear h3
  have u0 := (Ext.refl w).alloc (.cells #[.slice ao xss.length cap] 41)
  have b0 := Box.new w 41 #[.slice ao xss.length cap] rfl
  by_cases hz : szG 1048576 xss < 0
  · go_enter Try.func7, Try.ntmps7
    go_wp2_with fail
    refine (szNoiseTable_c _ xss 1048576 _ (H.out.ext u0) (by omega)).mono ?_
    rintro e w1 ⟨rfl, u1⟩
    go_wp2
    go_ret
    exact ⟨rfl, u0.trans u1⟩
  · have S := Lib.hid (Small.of_szG (left := 1048576) (by omega) (Int.not_lt.1 hz))
    obtain ⟨B, hB⟩ : ∃ B, B = mB (mOk xss count) (meanN xss count) 16 := ⟨_, rfl⟩
    obtain ⟨M, hM⟩ : ∃ M, M = mN (mOk xss count) (meanN xss count) 16 := ⟨_, rfl⟩
    obtain ⟨D, hD⟩ : ∃ D, D = mD (mOk xss count) (meanN xss count) 16 := ⟨_, rfl⟩
    have HB := Lib.hid hB; clear hB
    have HM := Lib.hid hM; clear hM
    have HD := Lib.hid hD; clear hD
    have hq : (B != B) = false := by simp
    go_enter Try.func7, Try.ntmps7
    go_wp2_with fail
    refine (szNoiseTable_c _ xss 1048576 _ (H.out.ext u0) (by omega)).mono ?_
    rintro e w1 ⟨rfl, u1⟩
    have c1 := (b0.ext u1).cell 0 (by simp)
    have v1 := u0.trans u1
    go_wp2_with fail
    refine (toNoiseTable_c _ xss _ (H.out.ext v1) S.out).mono ?_
    rintro e w2 ⟨x2, r2, rfl, o2, u2⟩
    go_wp2_with fail
    refine (specMean_c _ xss count _ o2.grid HC.out).mono ?_
    rw [← HB.out, ← HM.out, ← HD.out]
    rintro e w3 ⟨rfl, u3⟩
    have f3 := Box.new w3 24 #[.int .i64 M, .int .i64 D] rfl
    have u3' := (Ext.refl w3).alloc (.cells #[.int .i64 M, .int .i64 D] 24)
    have v3 := ((v1.trans u2).trans u3).trans u3'
    have b3 := (((b0.ext u1).ext u2).ext u3).ext u3'
    have c3 := b3.cell 0 (by simp)
    go_wp2_with fail
    refine (toNoiseTable_c _ xss _ (H.out.ext v3) S.out).mono ?_
    rintro e w4 ⟨x4, r4, rfl, o4, u4⟩
    have v4 := v3.trans u4
    have O4 := Lib.hid o4
    obtain ⟨a4, cp4, rfl, q1, q2, q3⟩ := o4
    clear q3
    have b4 := Box.new w4 46 #[.slice a4 xss.length cp4] rfl
    have u4' := (Ext.refl w4).alloc (.cells #[.slice a4 xss.length cp4] 46)
    go_wp2_with fail
    refine (implMean_c _ xss count _ (O4.out.grid.ext u4') HC.out).mono ?_
    rw [← HB.out, ← HM.out, ← HD.out]
    rintro e w5 ⟨rfl, u5⟩
    have f5 := Box.new w5 24 #[.int .i64 M, .int .i64 D] rfl
    have u5' := (Ext.refl w5).alloc (.cells #[.int .i64 M, .int .i64 D] 24)
    have f35 := ((f3.ext u4).ext (u4'.trans u5)).ext u5'
    have g0 := f5.cell 0 (by simp)
    have g1 := f5.cell 1 (by simp)
    have k0 := f35.cell 0 (by simp)
    have k1 := f35.cell 1 (by simp)
    go_wp2_with fail
    refine (eqFrac_b true M D M D _ (by simp)).mono ?_
    rintro e w6 ⟨rfl, u6⟩
    have e6 := (u5'.trans u6)
    have v6 := ((v4.trans u4').trans u5).trans e6
    have b6 := (b4.ext u5).ext e6
    have a6 := ((b3.ext u4).ext (u4'.trans u5)).ext e6
    have c6 := b6.cell 0 (by simp)
    have d6 := a6.cell 0 (by simp)
    have g6 := ((O4.out.grid.ext u4').ext u5).ext e6
    have G6 := Lib.hid g6; clear g6
    have hsz := v6.size
    have hsz4 := v4.size
    go_wp2_with fail
    go_region_held3 (fun w' => w'.cell? ⟨w.heap.size, 0, none⟩ = some (.slice ao xss.length cap) ∧ w'.cell? ⟨w4.heap.size, 0, none⟩ = some (.slice a4 xss.length cp4))
      (first | go_keep | exact ⟨Ext.cell u8 (Ext.cell u7 d6), Ext.cell u8 (Ext.cell u7 c6)⟩ | exact ⟨Ext.cell u7 d6, Ext.cell u7 c6⟩)
      ((first
        | (go_at_call 25; refine (toNoiseTable_c _ xss _ (H.out.ext v6.drew) S.out).mono ?_; rintro e w7 ⟨x7, r7, rfl, o7, u7⟩)
        | (go_at_call 28; refine (eqNoiseTable_b true _ _ xss xss _ (by simp) ((Grid.ext G6.out (Ext.refl _).drew).ext u7) o7.grid).mono ?_; rintro e w8 ⟨rfl, u8⟩)))
    go_wp2
    go_ret
    exact ⟨rfl, (v6.drew.trans u7).trans u8⟩
set_option maxHeartbeats 1600000 in
theorem lawVariance_c (v : Value) (xss : List (List Int)) (count : Int) (w : World) (h : Grid w v xss) (_ : WfG xss) (hc : -9223372036854775808 ≤ count ∧ count ≤ 9223372036854775807) :
    Calls Try.prog 8 #[.agg #[v], .int .i64 count] w fun e w' => e = .returned (.bool true) ∧ Ext w w' := by
  have H := Lib.hid h
  have HC := Lib.hid hc.2; clear hc
  obtain ⟨ao, cap, rfl, h1, h2, h3⟩ := h
  clear h3
  have u0 := (Ext.refl w).alloc (.cells #[.slice ao xss.length cap] 41)
  have b0 := Box.new w 41 #[.slice ao xss.length cap] rfl
  by_cases hz : szG 1048576 xss < 0
  · go_enter Try.func8, Try.ntmps8
    go_wp2_with fail
    refine (szNoiseTable_c _ xss 1048576 _ (H.out.ext u0) (by omega)).mono ?_
    rintro e w1 ⟨rfl, u1⟩
    go_wp2
    go_ret
    exact ⟨rfl, u0.trans u1⟩
  · have S := Lib.hid (Small.of_szG (left := 1048576) (by omega) (Int.not_lt.1 hz))
    obtain ⟨B, hB⟩ : ∃ B, B = mB (mOk xss count) (varN xss count) 256 := ⟨_, rfl⟩
    obtain ⟨M, hM⟩ : ∃ M, M = mN (mOk xss count) (varN xss count) 256 := ⟨_, rfl⟩
    obtain ⟨D, hD⟩ : ∃ D, D = mD (mOk xss count) (varN xss count) 256 := ⟨_, rfl⟩
    have HB := Lib.hid hB; clear hB
    have HM := Lib.hid hM; clear hM
    have HD := Lib.hid hD; clear hD
    have hq : (B != B) = false := by simp
    go_enter Try.func8, Try.ntmps8
    go_wp2_with fail
    refine (szNoiseTable_c _ xss 1048576 _ (H.out.ext u0) (by omega)).mono ?_
    rintro e w1 ⟨rfl, u1⟩
    have c1 := (b0.ext u1).cell 0 (by simp)
    have v1 := u0.trans u1
    go_wp2_with fail
    refine (toNoiseTable_c _ xss _ (H.out.ext v1) S.out).mono ?_
    rintro e w2 ⟨x2, r2, rfl, o2, u2⟩
    go_wp2_with fail
    refine (specVariance_c _ xss count _ o2.grid HC.out).mono ?_
    rw [← HB.out, ← HM.out, ← HD.out]
    rintro e w3 ⟨rfl, u3⟩
    have f3 := Box.new w3 24 #[.int .i64 M, .int .i64 D] rfl
    have u3' := (Ext.refl w3).alloc (.cells #[.int .i64 M, .int .i64 D] 24)
    have v3 := ((v1.trans u2).trans u3).trans u3'
    have b3 := (((b0.ext u1).ext u2).ext u3).ext u3'
    have c3 := b3.cell 0 (by simp)
    go_wp2_with fail
    refine (toNoiseTable_c _ xss _ (H.out.ext v3) S.out).mono ?_
    rintro e w4 ⟨x4, r4, rfl, o4, u4⟩
    have v4 := v3.trans u4
    have O4 := Lib.hid o4
    obtain ⟨a4, cp4, rfl, q1, q2, q3⟩ := o4
    clear q3
    have b4 := Box.new w4 46 #[.slice a4 xss.length cp4] rfl
    have u4' := (Ext.refl w4).alloc (.cells #[.slice a4 xss.length cp4] 46)
    go_wp2_with fail
    refine (implVariance_c _ xss count _ (O4.out.grid.ext u4') HC.out).mono ?_
    rw [← HB.out, ← HM.out, ← HD.out]
    rintro e w5 ⟨rfl, u5⟩
    have f5 := Box.new w5 24 #[.int .i64 M, .int .i64 D] rfl
    have u5' := (Ext.refl w5).alloc (.cells #[.int .i64 M, .int .i64 D] 24)
    have f35 := ((f3.ext u4).ext (u4'.trans u5)).ext u5'
    have g0 := f5.cell 0 (by simp)
    have g1 := f5.cell 1 (by simp)
    have k0 := f35.cell 0 (by simp)
    have k1 := f35.cell 1 (by simp)
    go_wp2_with fail
    refine (eqFrac_b true M D M D _ (by simp)).mono ?_
    rintro e w6 ⟨rfl, u6⟩
    have e6 := (u5'.trans u6)
    have v6 := ((v4.trans u4').trans u5).trans e6
    have b6 := (b4.ext u5).ext e6
    have a6 := ((b3.ext u4).ext (u4'.trans u5)).ext e6
    have c6 := b6.cell 0 (by simp)
    have d6 := a6.cell 0 (by simp)
    have g6 := ((O4.out.grid.ext u4').ext u5).ext e6
    have G6 := Lib.hid g6; clear g6
    have hsz := v6.size
    have hsz4 := v4.size
    go_wp2_with fail
    go_region_held3 (fun w' => w'.cell? ⟨w.heap.size, 0, none⟩ = some (.slice ao xss.length cap) ∧ w'.cell? ⟨w4.heap.size, 0, none⟩ = some (.slice a4 xss.length cp4))
      (first | go_keep | exact ⟨Ext.cell u8 (Ext.cell u7 d6), Ext.cell u8 (Ext.cell u7 c6)⟩ | exact ⟨Ext.cell u7 d6, Ext.cell u7 c6⟩)
      ((first
        | (go_at_call 25; refine (toNoiseTable_c _ xss _ (H.out.ext v6.drew) S.out).mono ?_; rintro e w7 ⟨x7, r7, rfl, o7, u7⟩)
        | (go_at_call 28; refine (eqNoiseTable_b true _ _ xss xss _ (by simp) ((Grid.ext G6.out (Ext.refl _).drew).ext u7) o7.grid).mono ?_; rintro e w8 ⟨rfl, u8⟩)))
    go_wp2
    go_ret
    exact ⟨rfl, (v6.drew.trans u7).trans u8⟩
end Go.Proofs.Ytabfnpndfknjaaa
