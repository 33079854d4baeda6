/- WorstDeviation, the spec's and the program's. -/
import Derived.Test.YtmffhipfodlomaaMat
import Derived.Test.YtmffhipfodlomaaRd
import Derived.BigRegion
import Derived.OwnWalk
namespace Go.Proofs.Ytmffhipfodlomaa
open Go.RowKit

def absI (n : Int) : Int := imax n (-n)
def devEl (x y : List (List Int)) (i j : Nat) : Int := absI (ix (rowAt y i) j - ix (rowAt x i) j)
/-- the differences of the first k rows, and of l elements of row k -/
def devRow (x y : List (List Int)) (i l : Nat) : List Int := (List.range l).map (devEl x y i)
def devRows (x y : List (List Int)) (k : Nat) : List Int := (List.range k).flatMap fun i => devRow x y i (rowAt x i).length
def devTo (x y : List (List Int)) (k l : Nat) : List Int := devRows x y k ++ devRow x y k l
theorem devTo_succ (x y : List (List Int)) (k l : Nat) : devTo x y k (l + 1) = devTo x y k l ++ [devEl x y k l] := by
  simp [devTo, devRow, List.range_succ]
theorem devTo_next (x y : List (List Int)) (k l : Nat) (h : (rowAt x k).length = l) : devTo x y (k + 1) 0 = devTo x y k l := by
  subst h; simp [devTo, devRows, devRow, List.range_succ]
theorem devTo_zero (x y : List (List Int)) : devTo x y 0 0 = [] := by simp [devTo, devRows, devRow]
def maxL (l : List Int) : Int := l.foldl imax 0
theorem maxL_snoc (l : List Int) (a : Int) : maxL (l ++ [a]) = imax (maxL l) a := by simp [maxL, List.foldl_append]
theorem sum_snoc (l : List Int) (a : Int) : (l ++ [a]).sum = l.sum + a := by simp
def worst0B (x y : List (List Int)) : Bool := shapeB (x.length : Int) ((rowAt x 0).length : Int) y && gridB 9223372036854775807 20000 y
def worstB (x y : List (List Int)) : Bool := gridB 7 10000 x && worst0B x y
def worstW (x y : List (List Int)) : Int := if worstB x y = true then maxL (devTo x y x.length 0) else 0
def worstS (x y : List (List Int)) : Int := if worstB x y = true then (devTo x y x.length 0).sum else 0
theorem worst_el {x y : List (List Int)} (hx : gridB 7 10000 x = true) {k l : Nat} (hk : k < x.length) (hl : l < (rowAt x k).length) (hy : 0 ≤ ix (rowAt y k) l ∧ ix (rowAt y k) l ≤ 20000) :
    0 ≤ devEl x y k l ∧ devEl x y k l ≤ 20000 := by
  have h1 := gridB_elem hx hk hl
  unfold devEl absI imax; omega

theorem l1Abs_c (a : Int) (w : World) (ha : -1000000000000 ≤ a ∧ a ≤ 1000000000000) : Calls Try.prog 62 #[.int .i64 a] w fun e w' => e = .returned (.int .i64 (absI a)) ∧ w' = w := by
  go_enter Try.func62, Try.ntmps62
  go_wp2_with fail
  refine (l1Most_c a (-a) _).mono ?_
  rintro e w' ⟨rfl, rfl⟩
  go_wp2
  go_ret
  exact ⟨rfl, rfl⟩

set_option maxHeartbeats 3200000 in
theorem specWorst_c (v : Value) (x : List (List Int)) (v2 : Value) (y : Rd) (w : World) (h : Grid w v x) (h2 : RdR w v2 y) :
    Calls Try.prog 22 #[v, v2] w fun e w' => e = .returned (.tuple #[.int .i64 (worstW x y.cells), .int .i64 (worstS x y.cells), .bool (worstB x y.cells)]) ∧ Ext w w' := by
  have H := Lib.hid h
  obtain ⟨a0, c0, a1, c1, a2, c2, rfl, n0, n1, n2⟩ := h2.form
  obtain ⟨_, _, e0, q0, q1, g2⟩ := h2.f0
  simp only [Value.slice.injEq, true_and] at e0
  obtain ⟨rfl, rfl⟩ := e0
  have GY0 := Lib.hid g2; clear g2 h2
  obtain ⟨ao, cap, rfl, r1, r2, r3⟩ := h
  have GX0 := Lib.hid r3; clear r3
  have u0 := (Ext.refl w).alloc (.cells #[.slice a0 y.cells.length c0, .slice a1 y.rows.length c1, .slice a2 y.cols.length c2, .int .i64 y.total] 39)
  have b0 := Box.new w 39 #[.slice a0 y.cells.length c0, .slice a1 y.rows.length c1, .slice a2 y.cols.length c2, .int .i64 y.total] rfl
  have cb0 := b0.cell 0 (by simp)
  have GX := Lib.hid (GX0.out.ext u0)
  have GY := Lib.hid (GY0.out.ext u0)
  cases hx : gridB 7 10000 x
  · have hB : worstB x y.cells = false := by simp [worstB, hx]
    have hW : worstW x y.cells = 0 := by simp [worstW, hB]
    have hS : worstS x y.cells = 0 := by simp [worstS, hB]
    rw [hW, hS, hB]; clear hW hS hB
    have HX := Lib.hid hx; clear hx
    go_enter Try.func22, Try.ntmps22
    go_wp2_with fail
    refine (oMatrix_b false _ x _ HX.out (H.out.ext u0)).mono ?_
    rintro e w' ⟨rfl, rfl⟩
    go_wp2
    go_ret3
    exact ⟨rfl, u0⟩
  by_cases hl : y.cells.length = x.length
  case neg =>
    have hB : worstB x y.cells = false := by
      have : shapeB (x.length : Int) ((rowAt x 0).length : Int) y.cells = false := shapeB_false (fun hh => hl (by omega))
      simp [worstB, worst0B, this]
    have hW : worstW x y.cells = 0 := by simp [worstW, hB]
    have hS : worstS x y.cells = 0 := by simp [worstS, hB]
    rw [hW, hS, hB]; clear hW hS hB
    have HX := Lib.hid hx; clear hx
    have hd : ((y.cells.length : Int) != (x.length : Int)) = true := by simp; omega
    have HL := Lib.hid hl; clear hl
    go_enter Try.func22, Try.ntmps22
    go_wp2_with fail
    refine (oMatrix_b true _ x _ HX.out (H.out.ext u0)).mono ?_
    rintro e w' ⟨rfl, rfl⟩
    go_wp2
    go_ret3
    exact ⟨rfl, u0⟩
  have hd : ((y.cells.length : Int) != (x.length : Int)) = false := by simp; omega
  have hxx := gridB_true.1 hx
  have HSH : Hid (∀ k, k < x.length → (rowAt x k).length = (rowAt x 0).length ∧ 1 ≤ (rowAt x k).length ∧ (rowAt x k).length ≤ 7) := Lib.hid (fun k hk => by have := (hxx.2.2.2.2 k hk).1; omega)
  have hx1 := hxx.1
  have hx7 := hxx.2.1
  clear hxx
  have HX := Lib.hid hx; clear hx
  have HL := Lib.hid hl; clear hl
  obtain ⟨b, o, ar0, cr0, e5, hc0, p1, p2, p3⟩ := GX.out.at0 (by omega)
  subst e5
  clear p3
  have x0 : (0 : Int) < (x.length : Int) := by omega
  go_enter Try.func22, Try.ntmps22
  go_wp2_with fail
  refine (oMatrix_b true _ x _ HX.out (H.out.ext u0)).mono ?_
  rintro e w' ⟨rfl, rfl⟩
  go_wp2
  go_loop [7, 8, 28] (fun m s i => ∃ k : Nat, k ≤ y.cells.length ∧ i = .int .i64 k ∧ m = .int .i64 (maxL (devTo x y.cells k 0)) ∧ s = .int .i64 (devTo x y.cells k 0).sum ∧ (0 ≤ (devTo x y.cells k 0).sum ∧ (devTo x y.cells k 0).sum ≤ 140000 * k) ∧ (∀ j, j < k → (rowAt y.cells j).length = (rowAt x 0).length ∧ allIn 0 20000 (rowAt y.cells j) = true)) (fun _ _ i => y.cells.length - (intOf i).toNat)
  case atStart => exact ⟨0, Nat.zero_le _, rfl, by simp [devTo_zero, maxL], by simp [devTo_zero], by simp [devTo_zero], fun j hj => by omega⟩
  case round =>
    obtain ⟨k, hk, rfl, rfl, rfl, hb, hj⟩ := hrel
    have HJ := Lib.hid hj; clear hj
    by_cases hlt : k < y.cells.length
    · have hltx : k < x.length := by have := HL.out; omega
      obtain ⟨by_, oy, ar, cr, e6, hcy, s1, s2, s3⟩ := GY.out.at_ hlt
      subst e6
      have R3 := Lib.hid s3; clear s3
      obtain ⟨b', o', arx, crx, he, hcx, t1, t2, t3⟩ := GX.out.at_ hltx
      simp only [Option.some.injEq, Addr.mk.injEq, and_true] at he
      obtain ⟨rfl, rfl⟩ := he
      have X3 := Lib.hid t3; clear t3
      by_cases hlr : (rowAt y.cells k).length = (rowAt x 0).length
      case neg =>
        have hd2 : (((rowAt y.cells k).length : Int) != ((rowAt x 0).length : Int)) = true := by simp; omega
        have HLR := Lib.hid hlr; clear hlr
        have hB : worstB x y.cells = false := by
          have : shapeB (x.length : Int) ((rowAt x 0).length : Int) y.cells = false := shapeB_false (fun hh => HLR.out (by have := hh.2 k hlt; omega))
          simp [worstB, worst0B, this]
        have HB := Lib.hid hB; clear hB
        go_wp2
        go_ret3
        have hW : worstW x y.cells = 0 := by simp [worstW, HB.out]
        have hS : worstS x y.cells = 0 := by simp [worstS, HB.out]
        rw [hW, hS, HB.out]
        exact ⟨rfl, u0⟩
      have hd2 : (((rowAt y.cells k).length : Int) != ((rowAt x 0).length : Int)) = false := by simp; omega
      have HLR := Lib.hid hlr; clear hlr
      cases ha : allIn 0 20000 (rowAt y.cells k)
      · have hB : worstB x y.cells = false := by
          have : gridB 9223372036854775807 20000 y.cells = false := gridB_false (fun hh => by have := (hh.2.2.2.2 k hlt).2; rw [ha] at this; cases this)
          simp [worstB, worst0B, this]
        have HB := Lib.hid hB; clear hB
        have HA := Lib.hid ha; clear ha
        go_wp2_with fail
        refine (l1All_b false _ (rowAt y.cells k) 0 20000 _ HA.out ⟨ar, cr, rfl, s1, s2, R3.out⟩).mono ?_
        rintro e w' ⟨rfl, rfl⟩
        go_wp2
        go_ret3
        have hW : worstW x y.cells = 0 := by simp [worstW, HB.out]
        have hS : worstS x y.cells = 0 := by simp [worstS, HB.out]
        rw [hW, hS, HB.out]
        exact ⟨rfl, u0⟩
      have HA := Lib.hid ha; clear ha
      go_wp2_with fail
      refine (l1All_b true _ (rowAt y.cells k) 0 20000 _ HA.out ⟨ar, cr, rfl, s1, s2, R3.out⟩).mono ?_
      rintro e w' ⟨rfl, rfl⟩
      go_wp2
      go_loop [7, 8, 47] (fun m s i => ∃ l : Nat, l ≤ (rowAt y.cells k).length ∧ i = .int .i64 l ∧ m = .int .i64 (maxL (devTo x y.cells k l)) ∧ s = .int .i64 (devTo x y.cells k l).sum ∧ (0 ≤ (devTo x y.cells k l).sum ∧ (devTo x y.cells k l).sum ≤ 140000 * k + 20000 * l)) (fun _ _ i => (rowAt y.cells k).length - (intOf i).toNat)
      case atStart => exact ⟨0, Nat.zero_le _, rfl, rfl, rfl, by omega⟩
      case round =>
        obtain ⟨l, hl, rfl, rfl, rfl, hb2⟩ := hrel
        by_cases hl2 : l < (rowAt y.cells k).length
        · have hs := HSH.out k hltx
          have hl2x : l < (rowAt x k).length := by have := HLR.out; omega
          have hl7 : l ≤ 7 := by omega
          clear hs
          obtain ⟨bq, oq, rfl, hcq⟩ := R3.out l hl2
          obtain ⟨bz, oz, rfl, hcz⟩ := X3.out l hl2x
          have h20 := allIn_true HA.out hl2
          have h10 := gridB_elem HX.out hltx hl2x
          have hel := worst_el HX.out hltx hl2x h20
          obtain ⟨S, hS⟩ : ∃ S, (devTo x y.cells k l).sum = S := ⟨_, rfl⟩
          obtain ⟨D, hD⟩ : ∃ D, devEl x y.cells k l = D := ⟨_, rfl⟩
          rw [hS] at hb2 ⊢
          rw [hD] at hel
          have HS' := Lib.hid hS; clear hS
          have HD' := Lib.hid hD; clear hD
          go_wp2_with fail
          refine (l1Abs_c (ix (rowAt y.cells k) l - ix (rowAt x k) l) _ (by omega)).mono ?_
          rw [show absI (ix (rowAt y.cells k) l - ix (rowAt x k) l) = D from HD'.out]
          rintro e w' ⟨rfl, rfl⟩
          go_wp2_with fail
          refine (l1Most_c (maxL (devTo x y.cells k l)) D _).mono ?_
          rintro e w' ⟨rfl, rfl⟩
          go_wp2
          go_round
          case rel => exact ⟨l + 1, by omega, by go_num, by rw [devTo_succ, maxL_snoc, HD'.out], by rw [devTo_succ, sum_snoc, HD'.out, HS'.out], by rw [devTo_succ, sum_snoc, HD'.out, HS'.out]; omega⟩
          case measure => simp [intOf]; omega
        · have hll : (rowAt x k).length = l := by have := HLR.out; have := (HSH.out k hltx).1; omega
          have hl7 : l ≤ 7 := by have := HSH.out k hltx; omega
          have HN := Lib.hid (devTo_next x y.cells k l hll); clear hll
          go_wp2
          go_round
          case rel => exact ⟨k + 1, by omega, by go_num, by rw [HN.out], by rw [HN.out], by rw [HN.out]; omega, fun j hj => by
            by_cases e : j = k
            · subst e; exact ⟨HLR.out, HA.out⟩
            · exact HJ.out j (by omega)⟩
          case measure => simp [intOf]; omega
    · have hB : worstB x y.cells = true := by
        have z1 := HSH.out 0 (by omega)
        have z2 := (HJ.out 0 (by have := HL.out; omega)).1
        have a1 : shapeB (x.length : Int) ((rowAt x 0).length : Int) y.cells = true := shapeB_true.2 ⟨by have := HL.out; omega, fun j hj => by have := (HJ.out j (by omega)).1; omega⟩
        have a2 : gridB 9223372036854775807 20000 y.cells = true := gridB_true.2 ⟨by have := HL.out; omega, by omega, by omega, by omega, fun j hj => ⟨by rw [(HJ.out j (by omega)).1, z2], (HJ.out j (by omega)).2⟩⟩
        simp [worstB, worst0B, a1, a2, HX.out]
      have HB := Lib.hid hB; clear hB
      have hk' : k = x.length := by have := HL.out; omega
      have HK := Lib.hid hk'; clear hk'
      go_wp2
      go_ret3
      have hW : worstW x y.cells = maxL (devTo x y.cells k 0) := by simp [worstW, HB.out, HK.out]
      have hS : worstS x y.cells = (devTo x y.cells k 0).sum := by simp [worstS, HB.out, HK.out]
      rw [hW, hS, HB.out]
      exact ⟨rfl, u0⟩

set_option maxHeartbeats 3200000 in
theorem implWorst_c (v : Value) (x : List (List Int)) (v2 : Value) (y : Rd) (w : World) (h : Grid w v x) (h2 : RdR w v2 y) :
    Calls Try.prog 25 #[v, v2] w fun e w' => e = .returned (.tuple #[.int .i64 (worstW x y.cells), .int .i64 (worstS x y.cells), .bool (worstB x y.cells)]) ∧ Ext w w' := by
  have H := Lib.hid h
  obtain ⟨a0, c0, a1, c1, a2, c2, rfl, n0, n1, n2⟩ := h2.form
  obtain ⟨_, _, e0, q0, q1, g2⟩ := h2.f0
  simp only [Value.slice.injEq, true_and] at e0
  obtain ⟨rfl, rfl⟩ := e0
  have GY0 := Lib.hid g2; clear g2 h2
  obtain ⟨ao, cap, rfl, r1, r2, r3⟩ := h
  have GX0 := Lib.hid r3; clear r3
  have u0 := (Ext.refl w).alloc (.cells #[.slice a0 y.cells.length c0, .slice a1 y.rows.length c1, .slice a2 y.cols.length c2, .int .i64 y.total] 39)
  have b0 := Box.new w 39 #[.slice a0 y.cells.length c0, .slice a1 y.rows.length c1, .slice a2 y.cols.length c2, .int .i64 y.total] rfl
  have cb0 := b0.cell 0 (by simp)
  have GX := Lib.hid (GX0.out.ext u0)
  have GY := Lib.hid (GY0.out.ext u0)
  have HYG : Hid (Grid _ (.slice a0 y.cells.length c0) y.cells) := Lib.hid ⟨_, _, rfl, q0, q1, GY.out⟩
  cases hx : gridB 7 10000 x
  · have hB : worstB x y.cells = false := by simp [worstB, hx]
    have HX := Lib.hid hx; clear hx
    have hW : worstW x y.cells = 0 := by simp [worstW, hB]
    have hS : worstS x y.cells = 0 := by simp [worstS, hB]
    rw [hW, hS, hB]; clear hW hS hB
    go_enter Try.func25, Try.ntmps25
    go_wp2_with fail
    go_quiet ((first | (go_at_call 64; exact Calls.quiet_of_same (isMatrix_b false _ x _ HX.out ((H.out.ext u0).drewN _)))))
    go_wp2
    go_ret3
    exact ⟨rfl, u0.drewN _⟩

  have hxx := gridB_true.1 hx
  have HSH : Hid (∀ k, k < x.length → (rowAt x k).length = (rowAt x 0).length ∧ 1 ≤ (rowAt x k).length ∧ (rowAt x k).length ≤ 7) := Lib.hid (fun k hk => by have := (hxx.2.2.2.2 k hk).1; omega)
  have hx1 := hxx.1
  have hx7 := hxx.2.1
  clear hxx
  have HX := Lib.hid hx; clear hx
  obtain ⟨b, o, ar0, cr0, e5, hc0, p1, p2, p3⟩ := GX.out.at0 (by omega)
  subst e5
  clear p3
  have x0 : (0 : Int) < (x.length : Int) := by omega
  cases hsb : shapeB (x.length : Int) ((rowAt x 0).length : Int) y.cells
  · have hB : worstB x y.cells = false := by simp [worstB, worst0B, hsb]
    have HSB := Lib.hid hsb; clear hsb
    have hW : worstW x y.cells = 0 := by simp [worstW, hB]
    have hS : worstS x y.cells = 0 := by simp [worstS, hB]
    rw [hW, hS, hB]; clear hW hS hB
    go_enter Try.func25, Try.ntmps25
    go_wp2_with fail
    go_quiet ((first | (go_at_call 64; exact Calls.quiet_of_same (isMatrix_b true _ x _ HX.out ((H.out.ext u0).drewN _))) | (go_at_call 58; exact Calls.quiet_of_same (hasShape_b false _ y.cells _ _ _ HSB.out (HYG.out.drewN _)))))
    go_wp2
    go_ret3
    exact ⟨rfl, u0.drewN _⟩

  cases hgb : gridB 9223372036854775807 20000 y.cells
  · have hB : worstB x y.cells = false := by simp [worstB, worst0B, hgb]
    have HSB := Lib.hid hsb; clear hsb
    have HGB := Lib.hid hgb; clear hgb
    have hW : worstW x y.cells = 0 := by simp [worstW, hB]
    have hS : worstS x y.cells = 0 := by simp [worstS, hB]
    rw [hW, hS, hB]; clear hW hS hB
    go_enter Try.func25, Try.ntmps25
    go_wp2_with fail
    go_quiet ((first | (go_at_call 64; exact Calls.quiet_of_same (isMatrix_b true _ x _ HX.out ((H.out.ext u0).drewN _))) | (go_at_call 58; exact Calls.quiet_of_same (hasShape_b true _ y.cells _ _ _ HSB.out (HYG.out.drewN _))) | (go_at_call 65; exact Calls.quiet_of_same (isGridOf_b false _ y.cells 20000 _ HGB.out (HYG.out.drewN _)))))
    go_wp2
    go_ret3
    exact ⟨rfl, u0.drewN _⟩

  have hB : worstB x y.cells = true := by simp [worstB, worst0B, HX.out, hsb, hgb]
  have hW : worstW x y.cells = maxL (devTo x y.cells x.length 0) := by simp [worstW, hB]
  have hS : worstS x y.cells = (devTo x y.cells x.length 0).sum := by simp [worstS, hB]
  rw [hW, hS, hB]; clear hW hS hB
  have hss := shapeB_true.1 hsb
  have HYL : Hid (y.cells.length = x.length) := Lib.hid (by have := hss.1; omega)
  have HYR : Hid (∀ k, k < x.length → (rowAt y.cells k).length = (rowAt x k).length) := Lib.hid (fun k hk => by have := hss.2 k (by have := HYL.out; omega); have := HSH.out k hk; omega)
  clear hss
  have HSB := Lib.hid hsb; clear hsb
  have HGB := Lib.hid hgb; clear hgb
  go_enter Try.func25, Try.ntmps25
  go_wp2_with fail
  go_quiet ((first | (go_at_call 64; exact Calls.quiet_of_same (isMatrix_b true _ x _ HX.out ((H.out.ext u0).drewN _))) | (go_at_call 58; exact Calls.quiet_of_same (hasShape_b true _ y.cells _ _ _ HSB.out (HYG.out.drewN _))) | (go_at_call 65; exact Calls.quiet_of_same (isGridOf_b true _ y.cells 20000 _ HGB.out (HYG.out.drewN _)))))
  obtain ⟨w9, hw⟩ : ∃ w9, w9 = (w.alloc (.cells #[.slice a0 y.cells.length c0, .slice a1 y.rows.length c1, .slice a2 y.cols.length c2, .int .i64 y.total] 39)).drewN nq := ⟨_, rfl⟩
  have WX : Ext w w9 := by rw [hw]; exact u0.drewN nq
  have hcb : w9.cell? ⟨w.heap.size, 0, none⟩ = some (.slice a0 y.cells.length c0) := by rw [hw]; exact cb0
  rw [← hw]
  clear hw hc0
  have GX := Lib.hid (GX0.out.ext WX)
  have GY := Lib.hid (GY0.out.ext WX)
  have HCB := Lib.hid hcb; clear hcb cb0
  go_wp2
  go_loopw [7, 8, 37] (fun m s i wr => ∃ k : Nat, k ≤ x.length ∧ i = .int .i64 k ∧ m = .int .i64 (maxL (devTo x y.cells k 0)) ∧ s = .int .i64 (devTo x y.cells k 0).sum ∧ (0 ≤ (devTo x y.cells k 0).sum ∧ (devTo x y.cells k 0).sum ≤ 140000 * k) ∧ Ext w9 wr) (fun _ _ i _ => x.length - (intOf i).toNat)
  case atStart => exact ⟨0, Nat.zero_le _, rfl, by simp [devTo_zero, maxL], by simp [devTo_zero], by simp [devTo_zero], Ext.refl _⟩
  case round =>
    obtain ⟨k, hk, rfl, rfl, rfl, hb, hxr⟩ := hrel
    by_cases hlt : k < x.length
    · have hlty : k < y.cells.length := by have := HYL.out; omega
      obtain ⟨b', o', arx, crx, he, hcx0, t1, t2, t3⟩ := GX.out.at_ hlt
      simp only [Option.some.injEq, Addr.mk.injEq, and_true] at he
      obtain ⟨rfl, rfl⟩ := he
      have X3 := Lib.hid t3; clear t3
      have hcx := Ext.cell hxr hcx0
      clear hcx0
      obtain ⟨by_, oy, ar, cr, e6, hcy, s1, s2, s3⟩ := GY.out.at_ hlty
      subst e6
      have R3 := Lib.hid s3; clear s3
      have HCY := Lib.hid hcy; clear hcy
      go_wp2
      go_loopw [7, 8, 44] (fun m s i wr' => ∃ l : Nat, l ≤ (rowAt x k).length ∧ i = .int .i64 l ∧ m = .int .i64 (maxL (devTo x y.cells k l)) ∧ s = .int .i64 (devTo x y.cells k l).sum ∧ (0 ≤ (devTo x y.cells k l).sum ∧ (devTo x y.cells k l).sum ≤ 140000 * k + 20000 * l) ∧ Ext w9 wr') (fun _ _ i _ => (rowAt x k).length - (intOf i).toNat)
      case atStart => exact ⟨0, Nat.zero_le _, rfl, rfl, rfl, by omega, hxr⟩
      case round =>
        obtain ⟨l, hl, rfl, rfl, rfl, hb2, hxi⟩ := hrel
        by_cases hl2 : l < (rowAt x k).length
        · have hs := HSH.out k hlt
          have hl2y : l < (rowAt y.cells k).length := by have := HYR.out k hlt; omega
          have hl7 : l ≤ 7 := by omega
          clear hs
          obtain ⟨bq, oq, rfl, hcq0⟩ := R3.out l hl2y
          obtain ⟨bz, oz, rfl, hcz0⟩ := X3.out l hl2
          have hcq := Ext.cell hxi hcq0
          have hcz := Ext.cell hxi hcz0
          have hcb := Ext.cell hxi HCB.out
          have hcy := Ext.cell hxi HCY.out
          clear hcq0 hcz0
          have h20 := gridB_elem HGB.out hlty hl2y
          have h10 := gridB_elem HX.out hlt hl2
          have hel := worst_el HX.out hlt hl2 h20
          obtain ⟨S, hS⟩ : ∃ S, (devTo x y.cells k l).sum = S := ⟨_, rfl⟩
          obtain ⟨M, hM⟩ : ∃ M, maxL (devTo x y.cells k l) = M := ⟨_, rfl⟩
          obtain ⟨D, hD⟩ : ∃ D, devEl x y.cells k l = D := ⟨_, rfl⟩
          obtain ⟨A, hA⟩ : ∃ A, ix (rowAt x k) l = A := ⟨_, rfl⟩
          obtain ⟨B, hB⟩ : ∃ B, ix (rowAt y.cells k) l = B := ⟨_, rfl⟩
          have hDD : D = imax (B - A) (-(B - A)) := by rw [← hD, ← hA, ← hB]; rfl
          rw [hS] at hb2 ⊢
          rw [hM]
          rw [hD] at hel
          rw [hA] at hcz h10
          rw [hB] at hcq h20
          have hm1 : (if A - B < B - A then B - A else A - B) = D := by rw [hDD]; unfold imax; split <;> omega
          have hm2 : imax M D = (if M < D then D else M) := by unfold imax; split <;> omega
          have HS' := Lib.hid hS; clear hS
          have HM' := Lib.hid hM; clear hM
          have HD' := Lib.hid hD; clear hD
          have HDD := Lib.hid hDD; clear hDD
          have HM2 := Lib.hid hm2; clear hm2 hA hB
          go_wp2_with fail
          go_region
          go_wp2
          go_roundw
          case rel => exact ⟨l + 1, by omega, by go_num, by rw [devTo_succ, maxL_snoc, HD'.out, HM'.out, HM2.out], by rw [devTo_succ, sum_snoc, HD'.out, HS'.out], by rw [devTo_succ, sum_snoc, HD'.out, HS'.out]; omega, hxi.drewN _⟩
          case measure => simp [intOf]; omega
        · have hll : (rowAt x k).length = l := by omega
          have hl7 : l ≤ 7 := by have := HSH.out k hlt; omega
          have HN := Lib.hid (devTo_next x y.cells k l hll); clear hll
          go_wp2
          go_roundw
          case rel => exact ⟨k + 1, by omega, by go_num, by rw [HN.out], by rw [HN.out], by rw [HN.out]; omega, hxi⟩
          case measure => simp [intOf]; omega
    · have hk' : k = x.length := by omega
      have HK := Lib.hid hk'; clear hk'
      go_wp2
      go_ret3
      rw [HK.out]
      exact ⟨rfl, WX.trans hxr⟩
end Go.Proofs.Ytmffhipfodlomaa
