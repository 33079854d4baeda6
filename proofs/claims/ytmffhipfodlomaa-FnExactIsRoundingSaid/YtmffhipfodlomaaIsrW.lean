/- IsRounding, the spec's and the program's. -/
import Derived.Test.YtmffhipfodlomaaIsr
import Derived.Deep.CutRange
import Derived.BigQuiet
namespace Go.Proofs.Ytmffhipfodlomaa
open Go.RowKit
noncomputable def isrB (x : List (List Int)) (base : Int) : Bool := gridB 7 10000 x && (decide (2 ≤ base) && decide (base ≤ 100))
noncomputable def isrV (x : List (List Int)) (base : Int) (Y : Rd) : Bool := isrB x base && roundsB x base Y

set_option maxRecDepth 100000 in
set_option maxHeartbeats 12800000 in
theorem oRounds_c (v : Value) (x : List (List Int)) (base : Int) (v2 : Value) (Y : Rd) (w : World) (h : Grid w v x) (hY : RdR w v2 Y) (hx : gridB 7 10000 x = true) (hbs : 2 ≤ base ∧ base ≤ 100) :
    Calls Try.prog 95 #[v, .int .i64 base, v2] w fun e w' => e = .returned (.bool (roundsB x base Y)) ∧ Ext w w' := by
  have H := Lib.hid h
  obtain ⟨ax, cx, rfl, hx1, hx2, hx3⟩ := h
  have GX0 := Lib.hid hx3; clear hx3
  have HY := Lib.hid hY
  obtain ⟨a0, c0, a1, c1, a2, c2, rfl, n0, n1, n2⟩ := hY.form
  clear hY
  obtain ⟨_, _, ey0, q0, q0', gy⟩ := HY.out.f0
  simp only [Value.slice.injEq, true_and] at ey0
  obtain ⟨rfl, rfl⟩ := ey0
  have GY0 := Lib.hid gy; clear gy
  obtain ⟨_, _, ey1, q1, q1', gy⟩ := HY.out.f1
  simp only [Value.slice.injEq, true_and] at ey1
  obtain ⟨rfl, rfl⟩ := ey1
  have RY0 := Lib.hid gy; clear gy
  obtain ⟨_, _, ey2, q2, q2', gy⟩ := HY.out.f2
  simp only [Value.slice.injEq, true_and] at ey2
  obtain ⟨rfl, rfl⟩ := ey2
  have CY0 := Lib.hid gy; clear gy
  have g := gridB_true.1 hx
  have x1 : 1 ≤ x.length := g.1
  have x7 : x.length ≤ 7 := g.2.1
  have m7 : (rowAt x 0).length ≤ 7 := g.2.2.2.1
  have HSH : Hid (∀ k, k < x.length → (rowAt x k).length = (rowAt x 0).length) := Lib.hid (fun k hk => (g.2.2.2.2 k hk).1)
  clear g
  have HM := Lib.hid (matOk_of hx)
  have HX := Lib.hid hx; clear hx
  have u0 := (Ext.refl w).alloc (.cells #[.slice a0 Y.cells.length c0, .slice a1 Y.rows.length c1, .slice a2 Y.cols.length c2, .int .i64 Y.total] 39)
  have b0 := Box.new w 39 #[.slice a0 Y.cells.length c0, .slice a1 Y.rows.length c1, .slice a2 Y.cols.length c2, .int .i64 Y.total] rfl
  go_enter Try.func95, Try.ntmps95
  go_wp2_with fail
  refine (oMargins_c _ x _ _ (H.out.ext u0) HM.out).mono ?_
  rintro e w1 ⟨v1, rfl, o1, u1⟩
  obtain ⟨⟨C1, R, K, t⟩, hT⟩ : ∃ T, margD x (rowAt x 0).length = T := ⟨_, rfl⟩
  rw [hT] at o1
  simp only [margD, Rd.mk.injEq] at hT
  obtain ⟨rfl, hTR, hTK, hTt⟩ := hT
  have RMd := o1.read
  clear o1
  obtain ⟨d0, e0, d1, e1, d2, e2, rfl, _⟩ := RMd.form
  obtain ⟨_, _, ez1, _, _, gz⟩ := RMd.f1
  simp only [Value.slice.injEq, true_and] at ez1
  obtain ⟨rfl, rfl⟩ := ez1
  have RZd := Lib.hid gz; clear gz
  obtain ⟨_, _, ez2, _, _, gz⟩ := RMd.f2
  simp only [Value.slice.injEq, true_and] at ez2
  obtain ⟨rfl, rfl⟩ := ez2
  have CZd := Lib.hid gz; clear gz
  have HRMd := Lib.hid RMd; clear RMd
  have HRd := Lib.hid hTR; clear hTR
  have HKd := Lib.hid hTK; clear hTK
  have HTd := Lib.hid hTt; clear hTt
  have uA := (Ext.refl w1).alloc (.cells #[.slice d0 x.length e0, .slice d1 R.length e1, .slice d2 K.length e2, .int .i64 t] 39)
  have bA := Box.new w1 39 #[.slice d0 x.length e0, .slice d1 R.length e1, .slice d2 K.length e2, .int .i64 t] rfl
  have bY := (b0.ext u1).ext uA
  have VA := (u0.trans u1).trans uA
  clear b0
  obtain ⟨wA, hwA⟩ : ∃ wA, wA = w1.alloc (.cells #[.slice d0 x.length e0, .slice d1 R.length e1, .slice d2 K.length e2, .int .i64 t] 39) := ⟨_, rfl⟩
  rw [← hwA] at uA bA bY VA
  go_upto_region 2 with fail
  rw [← hwA]
  clear hwA
  have y0 := bY.cell 0 (by simp)
  have y1 := bY.cell 1 (by simp)
  have y2 := bY.cell 2 (by simp)
  have y3 := bY.cell 3 (by simp)
  have z0 := bA.cell 0 (by simp)
  have z1 := bA.cell 1 (by simp)
  have z2 := bA.cell 2 (by simp)
  have z3 := bA.cell 3 (by simp)

  have HBY := Lib.hid bY; clear bY
  have HBA := Lib.hid bA; clear bA
  by_cases k1 : Y.cells.length = x.length
  case neg =>
    have hd : ((Y.cells.length : Int) != (x.length : Int)) = true := by simp; omega
    have HB := Lib.hid (roundsB_false (x := x) (base := base) (Y := Y) (fun hh => k1 hh.len))
    clear k1
    go_wp2
    go_ret
    rw [HB.out]
    exact ⟨rfl, VA⟩
  have hd1 : ((Y.cells.length : Int) != (x.length : Int)) = false := by simp; omega
  have K1 := Lib.hid k1; clear k1
  have HRl : Hid (R.length = x.length) := Lib.hid (by rw [← HRd.out, rowS_length])
  have HKl : Hid (K.length = (rowAt x 0).length) := Lib.hid (by rw [← HKd.out, colS_length])
  by_cases k2 : Y.rows.length = x.length
  case neg =>
    have hd : ((Y.rows.length : Int) != (R.length : Int)) = true := by have := HRl.out; simp; omega
    have HB := Lib.hid (roundsB_false (x := x) (base := base) (Y := Y) (fun hh => k2 hh.rows))
    clear k2
    go_wp2
    go_ret
    rw [HB.out]
    exact ⟨rfl, VA⟩
  have hd2 : ((Y.rows.length : Int) != (R.length : Int)) = false := by have := HRl.out; simp; omega
  have K2 := Lib.hid k2; clear k2
  by_cases k3 : Y.cols.length = (rowAt x 0).length
  case neg =>
    have hd : ((Y.cols.length : Int) != (K.length : Int)) = true := by have := HKl.out; simp; omega
    have HB := Lib.hid (roundsB_false (x := x) (base := base) (Y := Y) (fun hh => k3 hh.cols))
    clear k3
    go_wp2
    go_ret
    rw [HB.out]
    exact ⟨rfl, VA⟩
  have hd3 : ((Y.cols.length : Int) != (K.length : Int)) = false := by have := HKl.out; simp; omega
  have K3 := Lib.hid k3; clear k3
  cases k4 : allIn (-1000000) 1000000 Y.rows
  · have HB := Lib.hid (roundsB_false (x := x) (base := base) (Y := Y) (fun hh => by have := hh.rowsIn HX.out hbs; rw [k4] at this; cases this))
    have K4 := Lib.hid k4; clear k4
    go_wp2_with fail
    refine (l1All_b false _ Y.rows (-1000000) 1000000 _ K4.out (HY.out.f1.ext VA)).mono ?_
    rintro e w' ⟨rfl, rfl⟩
    go_wp2
    go_ret
    rw [HB.out]
    exact ⟨rfl, VA⟩
  have K4 := Lib.hid k4; clear k4
  cases k5 : allIn (-1000000) 1000000 Y.cols
  · have HB := Lib.hid (roundsB_false (x := x) (base := base) (Y := Y) (fun hh => by have := hh.colsIn HX.out hbs; rw [k5] at this; cases this))
    have K5 := Lib.hid k5; clear k5
    go_wp2_with fail
    refine (l1All_b true _ Y.rows (-1000000) 1000000 _ K4.out (HY.out.f1.ext VA)).mono ?_
    rintro e wA ⟨rfl, rfl⟩
    go_wp2_with fail
    refine (l1All_b false _ Y.cols (-1000000) 1000000 _ K5.out (HY.out.f2.ext VA)).mono ?_
    rintro e w' ⟨rfl, rfl⟩
    go_wp2
    go_ret
    rw [HB.out]
    exact ⟨rfl, VA⟩
  have K5 := Lib.hid k5; clear k5
  go_wp2_with fail
  refine (l1All_b true _ Y.rows (-1000000) 1000000 _ K4.out (HY.out.f1.ext VA)).mono ?_
  rintro e wA ⟨rfl, rfl⟩
  go_wp2_with fail
  refine (l1All_b true _ Y.cols (-1000000) 1000000 _ K5.out (HY.out.f2.ext VA)).mono ?_
  rintro e wA ⟨rfl, rfl⟩
  have GX := Lib.hid (GX0.out.ext VA)
  have GY := Lib.hid (GY0.out.ext VA)
  obtain ⟨bx0, ox0, ar0, cr0, e5, hc0, r0, r0', r0''⟩ := GX.out.at0 (by omega)
  subst e5
  clear r0''
  have xpos : (0 : Int) < (x.length : Int) := by omega
  go_wp2
  go_loop [58] (fun i => ∃ k : Nat, k ≤ Y.cells.length ∧ i = .int .i64 k ∧ (∀ j, j < k → (rowAt Y.cells j).length = (rowAt x 0).length ∧ allIn 0 1000000 (rowAt Y.cells j) = true ∧ ∀ l, l < (rowAt x 0).length → Near base (ix (rowAt x j) l) (ix (rowAt Y.cells j) l))) (fun i => Y.cells.length - (intOf i).toNat)
  case atStart => exact ⟨0, Nat.zero_le _, rfl, fun j hj => by omega⟩
  case round =>
    obtain ⟨k, hk, rfl, hj⟩ := hrel
    have HJ := Lib.hid hj; clear hj
    by_cases hlt : k < Y.cells.length
    · have hltx : k < x.length := by have := K1.out; omega
      obtain ⟨by_, oy, ar, cr, e6, hcy, s1, s2, s3⟩ := GY.out.at_ hlt
      subst e6
      have R3 := Lib.hid s3; clear s3
      obtain ⟨b', o', arx, crx, he, hcx, t1', t2', t3⟩ := GX.out.at_ hltx
      simp only [Option.some.injEq, Addr.mk.injEq, and_true] at he
      obtain ⟨rfl, rfl⟩ := he
      have X3 := Lib.hid t3; clear t3
      by_cases hlr : (rowAt Y.cells k).length = (rowAt x 0).length
      case neg =>
        have hdr : (((rowAt Y.cells k).length : Int) != ((rowAt x 0).length : Int)) = true := by simp; omega
        have HB := Lib.hid (roundsB_false (x := x) (base := base) (Y := Y) (fun hh => hlr (hh.row k hltx)))
        clear hlr
        go_wp2
        go_ret
        rw [HB.out]
        exact ⟨rfl, VA⟩
      have hdr : (((rowAt Y.cells k).length : Int) != ((rowAt x 0).length : Int)) = false := by simp; omega
      have HLR := Lib.hid hlr; clear hlr
      cases ha : allIn 0 1000000 (rowAt Y.cells k)
      · have HB := Lib.hid (roundsB_false (x := x) (base := base) (Y := Y) (fun hh => by have := hh.rowIn HX.out hbs hltx; rw [ha] at this; cases this))
        have HA := Lib.hid ha; clear ha
        go_wp2_with fail
        refine (l1All_b false _ (rowAt Y.cells k) 0 1000000 _ HA.out ⟨ar, cr, rfl, s1, s2, R3.out⟩).mono ?_
        rintro e w' ⟨rfl, rfl⟩
        go_wp2
        go_ret
        rw [HB.out]
        exact ⟨rfl, VA⟩
      have HA := Lib.hid ha; clear ha
      go_wp2_with fail
      refine (l1All_b true _ (rowAt Y.cells k) 0 1000000 _ HA.out ⟨ar, cr, rfl, s1, s2, R3.out⟩).mono ?_
      rintro e wA ⟨rfl, rfl⟩
      go_wp2
      go_loop [77] (fun i => ∃ l : Nat, l ≤ (rowAt Y.cells k).length ∧ i = .int .i64 l ∧ (∀ j, j < l → Near base (ix (rowAt x k) j) (ix (rowAt Y.cells k) j))) (fun i => (rowAt Y.cells k).length - (intOf i).toNat)
      case atStart => exact ⟨0, Nat.zero_le _, rfl, fun j hj => by omega⟩
      case round =>
        obtain ⟨l, hl, rfl, hj2⟩ := hrel
        have HJ2 := Lib.hid hj2; clear hj2
        by_cases hl2 : l < (rowAt Y.cells k).length
        · have hl2x : l < (rowAt x k).length := by have := HLR.out; have := HSH.out k hltx; omega
          obtain ⟨bq, oq, rfl, hcq⟩ := R3.out l hl2
          obtain ⟨bz, oz, rfl, hcz⟩ := X3.out l hl2x
          have h20 := allIn_true HA.out hl2
          have h10 := gridB_elem HX.out hltx hl2x
          cases hn : nearB base (ix (rowAt x k) l) (ix (rowAt Y.cells k) l)
          · have HB := Lib.hid (roundsB_false (x := x) (base := base) (Y := Y) (fun hh => by have := hh.cell k l hltx (by have := HLR.out; omega); simp [nearB, this] at hn))
            have HN := Lib.hid hn; clear hn
            go_wp2_with fail
            refine (oNear_b false _ _ base _ HN.out hbs (by omega) (by omega)).mono ?_
            rintro e w' ⟨rfl, rfl⟩
            go_wp2
            go_ret
            rw [HB.out]
            exact ⟨rfl, VA⟩
          · have HNN := Lib.hid (show Near base (ix (rowAt x k) l) (ix (rowAt Y.cells k) l) from of_decide_eq_true hn)
            have HN := Lib.hid hn; clear hn
            go_wp2_with fail
            refine (oNear_b true _ _ base _ HN.out hbs (by omega) (by omega)).mono ?_
            rintro e wA ⟨rfl, rfl⟩
            go_wp2
            go_round
            case rel => exact ⟨l + 1, by omega, by go_num, fun j hj => by
              by_cases e : j = l
              · subst e; exact HNN.out
              · exact HJ2.out j (by omega)⟩
            case measure => simp [intOf]; omega
        · go_wp2
          go_round
          case rel => exact ⟨k + 1, by omega, by go_num, fun j hj => by
            by_cases e : j = k
            · subst e; exact ⟨HLR.out, HA.out, fun l' hl' => HJ2.out l' (by have := HLR.out; omega)⟩
            · exact HJ.out j (by omega)⟩
          case measure => simp [intOf]; omega
    · have HC := Lib.hid (show ∀ j, j < x.length → (rowAt Y.cells j).length = (rowAt x 0).length ∧ allIn 0 1000000 (rowAt Y.cells j) = true ∧ ∀ l, l < (rowAt x 0).length → Near base (ix (rowAt x j) l) (ix (rowAt Y.cells j) l) from fun j hj => HJ.out j (by have := K1.out; omega))
      clear HJ
      have HMC := Lib.hid (matOk_cells HX.out K1.out (fun k hk => (HC.out k hk).1) (fun i j hi hj => by have h1 := HC.out i hi; have := allIn_true h1.2.1 (j := j) (by rw [h1.1]; exact hj); omega))
      clear hc0
      go_wp2_with fail
      refine (oMargins_c _ Y.cells _ _ (HY.out.f0.ext VA) HMC.out).mono ?_
      rintro e w2 ⟨v3, rfl, o3, u3⟩
      obtain ⟨⟨C2, R2, K2_, t2⟩, hT⟩ : ∃ T, margD Y.cells (rowAt x 0).length = T := ⟨_, rfl⟩
      rw [hT] at o3
      simp only [margD, Rd.mk.injEq] at hT
      obtain ⟨rfl, hTR, hTK, hTt⟩ := hT
      have RMf := o3.read
      clear o3
      obtain ⟨f0, g0, f1, g1, f2, g2, rfl, _⟩ := RMf.form
      obtain ⟨_, _, ez1, _, _, gz⟩ := RMf.f1
      simp only [Value.slice.injEq, true_and] at ez1
      obtain ⟨rfl, rfl⟩ := ez1
      have RZf := Lib.hid gz; clear gz
      obtain ⟨_, _, ez2, _, _, gz⟩ := RMf.f2
      simp only [Value.slice.injEq, true_and] at ez2
      obtain ⟨rfl, rfl⟩ := ez2
      have CZf := Lib.hid gz; clear gz
      have HRMf := Lib.hid RMf; clear RMf
      have HRf := Lib.hid hTR; clear hTR
      have HKf := Lib.hid hTK; clear hTK
      have HTf := Lib.hid hTt; clear hTt
      have uB := (Ext.refl w2).alloc (.cells #[.slice f0 Y.cells.length g0, .slice f1 R2.length g1, .slice f2 K2_.length g2, .int .i64 t2] 39)
      have bB := Box.new w2 39 #[.slice f0 Y.cells.length g0, .slice f1 R2.length g1, .slice f2 K2_.length g2, .int .i64 t2] rfl
      have bAB := (HBA.out.ext u3).ext uB
      have bYB := (HBY.out.ext u3).ext uB
      have VB := (VA.trans u3).trans uB
      have uAB := u3.trans uB
      obtain ⟨wB, hwB⟩ : ∃ wB, wB = w2.alloc (.cells #[.slice f0 Y.cells.length g0, .slice f1 R2.length g1, .slice f2 K2_.length g2, .int .i64 t2] 39) := ⟨_, rfl⟩
      rw [← hwB] at uB bB bAB bYB VB uAB
      go_upto_region 17 with fail
      rw [← hwB]
      clear hwB y0 y1 y2 y3 z0 z1 z2 z3
      have y0 := bYB.cell 0 (by simp)
      have y1 := bYB.cell 1 (by simp)
      have y2 := bYB.cell 2 (by simp)
      have y3 := bYB.cell 3 (by simp)
      have z0 := bAB.cell 0 (by simp)
      have z1 := bAB.cell 1 (by simp)
      have z2 := bAB.cell 2 (by simp)
      have z3 := bAB.cell 3 (by simp)
      have s0 := bB.cell 0 (by simp)
      have s1 := bB.cell 1 (by simp)
      have s2 := bB.cell 2 (by simp)
      have s3 := bB.cell 3 (by simp)

      have HBY' := Lib.hid bYB; clear bYB
      have HBA' := Lib.hid bAB; clear bAB
      have HBB' := Lib.hid bB; clear bB
      cases k6 : decide (R2 = Y.rows)
      · have HB := Lib.hid (roundsB_false (x := x) (base := base) (Y := Y) (fun hh => by have := hh.rsum; rw [HRf.out] at this; simp [this] at k6))
        have K6 := Lib.hid k6; clear k6
        go_wp2_with fail
        refine (l1Same_b false _ _ R2 Y.rows _ K6.out (HRMf.out.f1.ext uB) (HY.out.f1.ext VB)).mono ?_
        rintro e w' ⟨rfl, hdr⟩
        go_wp2
        go_ret
        rw [HB.out]
        exact ⟨rfl, VB.trans hdr.ext⟩
      have HRR := Lib.hid (of_decide_eq_true k6)
      have K6 := Lib.hid k6; clear k6
      go_wp2_with fail
      refine (l1Same_b true _ _ R2 Y.rows _ K6.out (HRMf.out.f1.ext uB) (HY.out.f1.ext VB)).mono ?_
      rintro e w3 ⟨rfl, hd3'⟩
      have E3 := hd3'.ext
      clear y0 y1 y2 y3 z0 z1 z2 z3 s0 s1 s2 s3
      have bY3 := HBY'.out.ext E3
      have bA3 := HBA'.out.ext E3
      have bB3 := HBB'.out.ext E3
      have y0 := bY3.cell 0 (by simp)
      have y1 := bY3.cell 1 (by simp)
      have y2 := bY3.cell 2 (by simp)
      have y3 := bY3.cell 3 (by simp)
      have z0 := bA3.cell 0 (by simp)
      have z1 := bA3.cell 1 (by simp)
      have z2 := bA3.cell 2 (by simp)
      have z3 := bA3.cell 3 (by simp)
      have s0 := bB3.cell 0 (by simp)
      have s1 := bB3.cell 1 (by simp)
      have s2 := bB3.cell 2 (by simp)
      have s3 := bB3.cell 3 (by simp)

      clear bY3 bA3 bB3
      have V3 := VB.trans E3
      cases k7 : decide (K2_ = Y.cols)
      · have HB := Lib.hid (roundsB_false (x := x) (base := base) (Y := Y) (fun hh => by have := hh.csum; rw [HKf.out] at this; simp [this] at k7))
        have K7 := Lib.hid k7; clear k7
        go_wp2_with fail
        refine (l1Same_b false _ _ K2_ Y.cols _ K7.out (HRMf.out.f2.ext (uB.trans E3)) (HY.out.f2.ext V3)).mono ?_
        rintro e w' ⟨rfl, hdr⟩
        go_wp2
        go_ret
        rw [HB.out]
        exact ⟨rfl, V3.trans hdr.ext⟩
      have HKK := Lib.hid (of_decide_eq_true k7)
      have K7 := Lib.hid k7; clear k7
      go_wp2_with fail
      refine (l1Same_b true _ _ K2_ Y.cols _ K7.out (HRMf.out.f2.ext (uB.trans E3)) (HY.out.f2.ext V3)).mono ?_
      rintro e w4 ⟨rfl, hd4⟩
      have E4 := E3.trans hd4.ext
      clear y0 y1 y2 y3 z0 z1 z2 z3 s0 s1 s2 s3
      have bY4 := HBY'.out.ext E4
      have bA4 := HBA'.out.ext E4
      have bB4 := HBB'.out.ext E4
      have y0 := bY4.cell 0 (by simp)
      have y1 := bY4.cell 1 (by simp)
      have y2 := bY4.cell 2 (by simp)
      have y3 := bY4.cell 3 (by simp)
      have z0 := bA4.cell 0 (by simp)
      have z1 := bA4.cell 1 (by simp)
      have z2 := bA4.cell 2 (by simp)
      have z3 := bA4.cell 3 (by simp)
      have s0 := bB4.cell 0 (by simp)
      have s1 := bB4.cell 1 (by simp)
      have s2 := bB4.cell 2 (by simp)
      have s3 := bB4.cell 3 (by simp)

      clear bY4 bA4 bB4
      have V4 := VB.trans E4
      by_cases k8 : t2 = Y.total
      case neg =>
        have hd8 : (t2 != Y.total) = true := by simp [k8]
        have HB := Lib.hid (roundsB_false (x := x) (base := base) (Y := Y) (fun hh => k8 (by have := hh.tsum; rw [HTf.out] at this; exact this)))
        clear k8
        go_wp2
        go_ret
        rw [HB.out]
        exact ⟨rfl, V4⟩
      have hd8 : (t2 != Y.total) = false := by simp [k8]
      have K8 := Lib.hid k8
      have htt := totS_in HX.out
      rw [HTd.out] at htt
      have ht2 : -10000000000 ≤ Y.total ∧ Y.total ≤ 10000000000 := by
        have h1 := sum_abs_le (B := 1000000000) HMC.out.rowS_bound
        rw [rowS_length, HTf.out, k8] at h1
        have := K1.out
        omega
      clear k8
      cases k9 : nearB base t Y.total
      · have HB := Lib.hid (roundsB_false (x := x) (base := base) (Y := Y) (fun hh => by have := hh.tnear; rw [HTd.out] at this; simp [nearB, this] at k9))
        have K9 := Lib.hid k9; clear k9
        go_wp2_with fail
        refine (oNear_b false _ _ base _ K9.out hbs (by omega) (by omega)).mono ?_
        rintro e w' ⟨rfl, rfl⟩
        go_wp2
        go_ret
        rw [HB.out]
        exact ⟨rfl, V4⟩
      have HTN := Lib.hid (show Near base t Y.total from of_decide_eq_true k9)
      have K9 := Lib.hid k9; clear k9
      go_wp2_with fail
      refine (oNear_b true _ _ base _ K9.out hbs (by omega) (by omega)).mono ?_
      rintro e w4 ⟨rfl, rfl⟩
      have RYw := Lib.hid (RY0.out.ext V4)
      have CYw := Lib.hid (CY0.out.ext V4)
      have RZw := Lib.hid (RZd.out.ext ((uA.trans uAB).trans E4))
      have CZw := Lib.hid (CZd.out.ext ((uA.trans uAB).trans E4))
      have HLr : Hid (Y.rows.length = x.length ∧ R.length = x.length) := Lib.hid ⟨K2.out, HRl.out⟩
      have HLc : Hid (Y.cols.length = (rowAt x 0).length ∧ K.length = (rowAt x 0).length) := Lib.hid ⟨K3.out, HKl.out⟩
      go_wp2
      go_loop [131] (fun i => ∃ k : Nat, k ≤ Y.rows.length ∧ i = .int .i64 k ∧ (∀ j, j < k → Near base (ix R j) (ix Y.rows j))) (fun i => Y.rows.length - (intOf i).toNat)
      case atStart => exact ⟨0, Nat.zero_le _, rfl, fun j hj => by omega⟩
      case round =>
        obtain ⟨k, hk, rfl, hj⟩ := hrel
        have HJ := Lib.hid hj; clear hj
        by_cases hlt : k < Y.rows.length
        · have ltA : k < R.length := by have := HLr.out; omega
          have ltB : k < Y.rows.length := by have := HLr.out; omega
          obtain ⟨ba, oa, ea, hca⟩ := RZw.out k ltA
          obtain ⟨bb, ob, eb, hcb⟩ := RYw.out k ltB
          subst ea; subst eb
          have hb1 := rowS_in HX.out (i := k) (by have := HLr.out; omega)
          rw [HRd.out] at hb1
          have hb2 := allIn_true K4.out ltB
          cases hn : nearB base (ix R k) (ix Y.rows k)
          · have HB := Lib.hid (roundsB_false (x := x) (base := base) (Y := Y) (fun hh => by have := hh.rnear k (by have := HLr.out; omega); rw [HRd.out] at this; simp [nearB, this] at hn))
            have HN := Lib.hid hn; clear hn
            go_wp2_with fail
            refine (oNear_b false _ _ base _ HN.out hbs (by omega) (by omega)).mono ?_
            rintro e w' ⟨rfl, rfl⟩
            go_wp2
            go_ret
            rw [HB.out]
            exact ⟨rfl, V4⟩
          · have HNN := Lib.hid (show Near base (ix R k) (ix Y.rows k) from of_decide_eq_true hn)
            have HN := Lib.hid hn; clear hn
            go_wp2_with fail
            refine (oNear_b true _ _ base _ HN.out hbs (by omega) (by omega)).mono ?_
            rintro e w' ⟨rfl, rfl⟩
            go_wp2
            go_round
            case rel => exact ⟨k + 1, by omega, by go_num, fun j hj => by
              by_cases e : j = k
              · subst e; exact HNN.out
              · exact HJ.out j (by omega)⟩
            case measure => simp [intOf]; omega
        · have RN := Lib.hid (show ∀ j, j < Y.rows.length → Near base (ix R j) (ix Y.rows j) from fun j hj => HJ.out j (by omega))
          clear HJ
          go_wp2
          go_loop [149] (fun i => ∃ k : Nat, k ≤ Y.cols.length ∧ i = .int .i64 k ∧ (∀ j, j < k → Near base (ix K j) (ix Y.cols j))) (fun i => Y.cols.length - (intOf i).toNat)
          case atStart => exact ⟨0, Nat.zero_le _, rfl, fun j hj => by omega⟩
          case round =>
            obtain ⟨k, hk, rfl, hj⟩ := hrel
            have HJ := Lib.hid hj; clear hj
            by_cases hlt : k < Y.cols.length
            · have ltA : k < K.length := by have := HLc.out; omega
              have ltB : k < Y.cols.length := by have := HLc.out; omega
              obtain ⟨ba, oa, ea, hca⟩ := CZw.out k ltA
              obtain ⟨bb, ob, eb, hcb⟩ := CYw.out k ltB
              subst ea; subst eb
              have hb1 := colS_in HX.out (j := k) (by have := HLc.out; omega)
              rw [HKd.out] at hb1
              have hb2 := allIn_true K5.out ltB
              cases hn : nearB base (ix K k) (ix Y.cols k)
              · have HB := Lib.hid (roundsB_false (x := x) (base := base) (Y := Y) (fun hh => by have := hh.cnear k (by have := HLc.out; omega); rw [HKd.out] at this; simp [nearB, this] at hn))
                have HN := Lib.hid hn; clear hn
                go_wp2_with fail
                refine (oNear_b false _ _ base _ HN.out hbs (by omega) (by omega)).mono ?_
                rintro e w' ⟨rfl, rfl⟩
                go_wp2
                go_ret
                rw [HB.out]
                exact ⟨rfl, V4⟩
              · have HNN := Lib.hid (show Near base (ix K k) (ix Y.cols k) from of_decide_eq_true hn)
                have HN := Lib.hid hn; clear hn
                go_wp2_with fail
                refine (oNear_b true _ _ base _ HN.out hbs (by omega) (by omega)).mono ?_
                rintro e w' ⟨rfl, rfl⟩
                go_wp2
                go_round
                case rel => exact ⟨k + 1, by omega, by go_num, fun j hj => by
                  by_cases e : j = k
                  · subst e; exact HNN.out
                  · exact HJ.out j (by omega)⟩
                case measure => simp [intOf]; omega
            · have CN := Lib.hid (show ∀ j, j < Y.cols.length → Near base (ix K j) (ix Y.cols j) from fun j hj => HJ.out j (by omega))
              clear HJ
              have HB := Lib.hid (roundsB_true (x := x) (base := base) (Y := Y) ⟨K1.out, fun k hk => (HC.out k hk).1, K2.out, K3.out, fun i j hi hj => (HC.out i hi).2.2 j hj, by rw [HRf.out]; exact HRR.out, by rw [HKf.out]; exact HKK.out, by rw [HTf.out]; exact K8.out, fun i hi => by rw [HRd.out]; exact RN.out i (by have := HLr.out; omega), fun j hj => by rw [HKd.out]; exact CN.out j (by have := HLc.out; omega), by rw [HTd.out]; exact HTN.out⟩)
              go_wp2
              go_ret
              rw [HB.out]
              exact ⟨rfl, V4⟩
set_option maxHeartbeats 1600000 in
theorem specIsr_c (v : Value) (x : List (List Int)) (base : Int) (v2 : Value) (Y : Rd) (w : World) (h : Grid w v x) (hY : RdR w v2 Y) :
    Calls Try.prog 52 #[v, .int .i64 base, v2] w fun e w' => e = .returned (.tuple #[.bool (isrV x base Y), .bool (isrB x base)]) ∧ Ext w w' := by
  have H := Lib.hid h; clear h
  have HY := Lib.hid hY
  obtain ⟨a0, c0, a1, c1, a2, c2, rfl, n0, n1, n2⟩ := hY.form
  clear hY
  have u0 := (Ext.refl w).alloc (.cells #[.slice a0 Y.cells.length c0, .slice a1 Y.rows.length c1, .slice a2 Y.cols.length c2, .int .i64 Y.total] 39)
  have b0 := Box.new w 39 #[.slice a0 Y.cells.length c0, .slice a1 Y.rows.length c1, .slice a2 Y.cols.length c2, .int .i64 Y.total] rfl
  cases hg : isrB x base
  · have hV : isrV x base Y = false := by simp [isrV, hg]
    rw [hV]; clear hV
    have HG := Lib.hid (show (gridB 7 10000 x && (decide (2 ≤ base) && decide (base ≤ 100))) = false from hg); clear hg
    go_enter Try.func52, Try.ntmps52
    go_wp2_with fail
    refine (oGood_b false _ x base _ HG.out (H.out.ext u0)).mono ?_
    rintro e w' ⟨rfl, rfl⟩
    go_wp2
    go_ret2
    exact ⟨rfl, u0⟩
  · have hV : isrV x base Y = roundsB x base Y := by simp [isrV, hg]
    rw [hV]; clear hV
    have HG := Lib.hid (show (gridB 7 10000 x && (decide (2 ≤ base) && decide (base ≤ 100))) = true from hg); clear hg
    have hg := HG.out
    simp only [Bool.and_eq_true, decide_eq_true_eq] at hg
    obtain ⟨hx, hb1, hb2⟩ := hg
    have HX := Lib.hid hx; clear hx
    have y0 := b0.cell 0 (by simp)
    have y1 := b0.cell 1 (by simp)
    have y2 := b0.cell 2 (by simp)
    have y3 := b0.cell 3 (by simp)
    go_enter Try.func52, Try.ntmps52
    go_wp2_with fail
    refine (oGood_b true _ x base _ HG.out (H.out.ext u0)).mono ?_
    rintro e w0 ⟨rfl, rfl⟩
    go_wp2_with fail
    refine (oRounds_c _ x base _ Y _ (H.out.ext u0) (HY.out.ext u0) HX.out ⟨hb1, hb2⟩).mono ?_
    rintro e w2 ⟨rfl, u2⟩
    go_wp2
    go_ret2
    exact ⟨rfl, u0.trans u2⟩

set_option maxRecDepth 100000 in
set_option maxHeartbeats 12800000 in
theorem implIsr_c (v : Value) (x : List (List Int)) (base : Int) (v2 : Value) (Y : Rd) (w : World) (h : Grid w v x) (hY : RdR w v2 Y) :
    Calls Try.prog 53 #[v, .int .i64 base, v2] w fun e w' => e = .returned (.tuple #[.bool (isrV x base Y), .bool (isrB x base)]) ∧ Ext w w' := by
  have H := Lib.hid h
  obtain ⟨ax, cx, rfl, hx1, hx2, hx3⟩ := h
  have GX0 := Lib.hid hx3; clear hx3
  cases hx : gridB 7 10000 x
  · have hG : isrB x base = false := by simp [isrB, hx]
    have hV : isrV x base Y = false := by simp [isrV, hG]
    rw [hV, hG]; clear hV hG
    have HX := Lib.hid hx; clear hx
    obtain ⟨a0, c0, a1, c1, a2, c2, rfl, n0, n1, n2⟩ := hY.form
    have u0 := (Ext.refl w).alloc (.cells #[.slice a0 Y.cells.length c0, .slice a1 Y.rows.length c1, .slice a2 Y.cols.length c2, .int .i64 Y.total] 39)
    go_enter Try.func53, Try.ntmps53
    go_wp2_with fail
    refine (isMatrix_b false _ x _ HX.out (H.out.ext u0)).mono ?_
    rintro e w' ⟨rfl, rfl⟩
    go_wp2
    go_ret2
    exact ⟨rfl, u0⟩
  cases hbb : (decide (2 ≤ base) && decide (base ≤ 100))
  · have hG : isrB x base = false := by simp only [isrB, hbb, Bool.and_false]
    have hV : isrV x base Y = false := by simp [isrV, hG]
    rw [hV, hG]; clear hV hG
    have HX := Lib.hid hx; clear hx
    have HBB := Lib.hid hbb; clear hbb
    obtain ⟨a0, c0, a1, c1, a2, c2, rfl, n0, n1, n2⟩ := hY.form
    have u0 := (Ext.refl w).alloc (.cells #[.slice a0 Y.cells.length c0, .slice a1 Y.rows.length c1, .slice a2 Y.cols.length c2, .int .i64 Y.total] 39)
    go_enter Try.func53, Try.ntmps53
    go_wp2_with fail
    refine (isMatrix_b true _ x _ HX.out (H.out.ext u0)).mono ?_
    rintro e w0 ⟨rfl, rfl⟩
    go_wp2_with fail
    refine (isBaseOf_b false base _ HBB.out).mono ?_
    rintro e w' ⟨rfl, rfl⟩
    go_wp2
    go_ret2
    exact ⟨rfl, u0⟩
  have hG : isrB x base = true := by simp only [isrB, hx, hbb, Bool.and_self]
  have hV : isrV x base Y = roundsB x base Y := by simp [isrV, hG]
  rw [hV, hG]; clear hV hG
  have hbs : 2 ≤ base ∧ base ≤ 100 := by simpa using hbb
  have HBB := Lib.hid hbb; clear hbb
  have HY := Lib.hid hY
  obtain ⟨a0, c0, a1, c1, a2, c2, rfl, n0, n1, n2⟩ := hY.form
  clear hY
  obtain ⟨_, _, ey0, q0, q0', gy⟩ := HY.out.f0
  simp only [Value.slice.injEq, true_and] at ey0
  obtain ⟨rfl, rfl⟩ := ey0
  have GY0 := Lib.hid gy; clear gy
  obtain ⟨_, _, ey1, q1, q1', gy⟩ := HY.out.f1
  simp only [Value.slice.injEq, true_and] at ey1
  obtain ⟨rfl, rfl⟩ := ey1
  have RY0 := Lib.hid gy; clear gy
  obtain ⟨_, _, ey2, q2, q2', gy⟩ := HY.out.f2
  simp only [Value.slice.injEq, true_and] at ey2
  obtain ⟨rfl, rfl⟩ := ey2
  have CY0 := Lib.hid gy; clear gy
  have g := gridB_true.1 hx
  have x1 : 1 ≤ x.length := g.1
  have x7 : x.length ≤ 7 := g.2.1
  have m7 : (rowAt x 0).length ≤ 7 := g.2.2.2.1
  have HSH : Hid (∀ k, k < x.length → (rowAt x k).length = (rowAt x 0).length) := Lib.hid (fun k hk => (g.2.2.2.2 k hk).1)
  clear g
  have HM := Lib.hid (matOk_of hx)
  have HX := Lib.hid hx; clear hx
  have u0 := (Ext.refl w).alloc (.cells #[.slice a0 Y.cells.length c0, .slice a1 Y.rows.length c1, .slice a2 Y.cols.length c2, .int .i64 Y.total] 39)
  have b0 := Box.new w 39 #[.slice a0 Y.cells.length c0, .slice a1 Y.rows.length c1, .slice a2 Y.cols.length c2, .int .i64 Y.total] rfl
  have GX1 := Lib.hid (GX0.out.ext u0)
  obtain ⟨bx0, ox0, ar0, cr0, e5, hc0, r0, r0', r0''⟩ := GX1.out.at0 (by omega)
  subst e5
  clear r0''
  have xpos : (0 : Int) < (x.length : Int) := by omega
  have y0 := b0.cell 0 (by simp)
  have y1 := b0.cell 1 (by simp)
  have y2 := b0.cell 2 (by simp)
  have y3 := b0.cell 3 (by simp)

  have HYG : Hid (Grid _ (.slice a0 Y.cells.length c0) Y.cells) := Lib.hid (HY.out.f0.ext u0)
  go_enter Try.func53, Try.ntmps53
  go_wp2_with fail
  refine (isMatrix_b true _ x _ HX.out (H.out.ext u0)).mono ?_
  rintro e w0 ⟨rfl, rfl⟩
  go_wp2_with fail
  refine (isBaseOf_b true base _ HBB.out).mono ?_
  rintro e w0 ⟨rfl, rfl⟩
  cases k1 : shapeB (x.length : Int) ((rowAt x 0).length : Int) Y.cells
  · have HB := Lib.hid (roundsB_false (x := x) (base := base) (Y := Y) (fun hh => by
      have : shapeB (x.length : Int) ((rowAt x 0).length : Int) Y.cells = true := shapeB_true.2 ⟨by rw [hh.len], fun k hk => by rw [hh.row k (by rw [← hh.len]; exact hk)]⟩
      rw [k1] at this; cases this))
    have K1 := Lib.hid k1; clear k1
    go_wp2_with fail
    go_quiet ((go_at_call 58; exact Calls.quiet_of_same (hasShape_b false _ Y.cells _ _ _ K1.out (HYG.out.drewN _))))
    go_wp2
    go_ret2
    rw [HB.out]
    exact ⟨rfl, u0.drewN _⟩
  by_cases k2 : Y.rows.length = x.length
  case neg =>
    have hd : ((Y.rows.length : Int) != (x.length : Int)) = true := by simp; omega
    have HB := Lib.hid (roundsB_false (x := x) (base := base) (Y := Y) (fun hh => k2 hh.rows))
    have K1 := Lib.hid k1; clear k1 k2
    go_wp2_with fail
    go_quiet ((go_at_call 58; exact Calls.quiet_of_same (hasShape_b true _ Y.cells _ _ _ K1.out (HYG.out.drewN _))))
    go_wp2
    go_ret2
    rw [HB.out]
    exact ⟨rfl, u0.drewN _⟩
  have hd2 : ((Y.rows.length : Int) != (x.length : Int)) = false := by simp; omega
  by_cases k3 : Y.cols.length = (rowAt x 0).length
  case neg =>
    have hd : ((Y.cols.length : Int) != ((rowAt x 0).length : Int)) = true := by simp; omega
    have HB := Lib.hid (roundsB_false (x := x) (base := base) (Y := Y) (fun hh => k3 hh.cols))
    have K1 := Lib.hid k1; clear k1 k2 k3
    go_wp2_with fail
    go_quiet ((go_at_call 58; exact Calls.quiet_of_same (hasShape_b true _ Y.cells _ _ _ K1.out (HYG.out.drewN _))))
    go_wp2
    go_ret2
    rw [HB.out]
    exact ⟨rfl, u0.drewN _⟩
  have hd3 : ((Y.cols.length : Int) != ((rowAt x 0).length : Int)) = false := by simp; omega
  have hss := shapeB_true.1 k1
  have HYL : Hid (Y.cells.length = x.length) := Lib.hid (by have := hss.1; omega)
  have HYR : Hid (∀ k, k < x.length → (rowAt Y.cells k).length = (rowAt x 0).length) := Lib.hid (fun k hk => by have := hss.2 k (by have := HYL.out; omega); omega)
  clear hss
  have K1 := Lib.hid k1; clear k1
  have K2 := Lib.hid k2; clear k2
  have K3 := Lib.hid k3; clear k3
  go_wp2_with fail
  go_quiet ((go_at_call 58; exact Calls.quiet_of_same (hasShape_b true _ Y.cells _ _ _ K1.out (HYG.out.drewN _))))
  obtain ⟨w9, hw⟩ : ∃ w9, w9 = (w.alloc (.cells #[.slice a0 Y.cells.length c0, .slice a1 Y.rows.length c1, .slice a2 Y.cols.length c2, .int .i64 Y.total] 39)).drewN nq := ⟨_, rfl⟩
  have u9 := u0.drewN nq
  have b9 : Box ((w.alloc (.cells #[.slice a0 Y.cells.length c0, .slice a1 Y.rows.length c1, .slice a2 Y.cols.length c2, .int .i64 Y.total] 39)).drewN nq) w.heap.size 39 #[.slice a0 Y.cells.length c0, .slice a1 Y.rows.length c1, .slice a2 Y.cols.length c2, .int .i64 Y.total] := b0
  rw [← hw] at u9 b9 ⊢
  clear hw y0 y1 y2 y3 b0 hc0
  go_wp2_with fail
  refine (summed_c _ x _ _ (H.out.ext u9) HM.out).mono ?_
  rintro e w1 ⟨v1, rfl, o1, u1⟩
  obtain ⟨⟨C1, R, K, t⟩, hT⟩ : ∃ T, margD x (rowAt x 0).length = T := ⟨_, rfl⟩
  rw [hT] at o1
  simp only [margD, Rd.mk.injEq] at hT
  obtain ⟨rfl, hTR, hTK, hTt⟩ := hT
  have RMd := o1.read
  clear o1
  obtain ⟨d0, e0, d1, e1, d2, e2, rfl, _⟩ := RMd.form
  obtain ⟨_, _, ez1, _, _, gz⟩ := RMd.f1
  simp only [Value.slice.injEq, true_and] at ez1
  obtain ⟨rfl, rfl⟩ := ez1
  have RZd := Lib.hid gz; clear gz
  obtain ⟨_, _, ez2, _, _, gz⟩ := RMd.f2
  simp only [Value.slice.injEq, true_and] at ez2
  obtain ⟨rfl, rfl⟩ := ez2
  have CZd := Lib.hid gz; clear gz
  have HRMd := Lib.hid RMd; clear RMd
  have HRd := Lib.hid hTR; clear hTR
  have HKd := Lib.hid hTK; clear hTK
  have HTd := Lib.hid hTt; clear hTt
  have uA := (Ext.refl w1).alloc (.cells #[.slice d0 x.length e0, .slice d1 R.length e1, .slice d2 K.length e2, .int .i64 t] 39)
  have bA := Box.new w1 39 #[.slice d0 x.length e0, .slice d1 R.length e1, .slice d2 K.length e2, .int .i64 t] rfl
  have bY := (b9.ext u1).ext uA
  have VA := (u9.trans u1).trans uA
  clear b9
  obtain ⟨wA, hwA⟩ : ∃ wA, wA = w1.alloc (.cells #[.slice d0 x.length e0, .slice d1 R.length e1, .slice d2 K.length e2, .int .i64 t] 39) := ⟨_, rfl⟩
  rw [← hwA] at uA bA bY VA
  go_upto_region 6 with fail
  rw [← hwA]
  clear hwA
  have y0 := bY.cell 0 (by simp)
  have y1 := bY.cell 1 (by simp)
  have y2 := bY.cell 2 (by simp)
  have y3 := bY.cell 3 (by simp)
  have z0 := bA.cell 0 (by simp)
  have z1 := bA.cell 1 (by simp)
  have z2 := bA.cell 2 (by simp)
  have z3 := bA.cell 3 (by simp)

  have HBY := Lib.hid bY; clear bY
  have HBA := Lib.hid bA; clear bA
  have HRl : Hid (R.length = x.length) := Lib.hid (by rw [← HRd.out, rowS_length])
  have HKl : Hid (K.length = (rowAt x 0).length) := Lib.hid (by rw [← HKd.out, colS_length])
  have GX := Lib.hid (GX0.out.ext VA)
  have GY := Lib.hid (GY0.out.ext VA)
  go_wp2
  go_loop [58] (fun i => ∃ k : Nat, k ≤ x.length ∧ i = .int .i64 k ∧ (∀ j, j < k → ∀ l, l < (rowAt x 0).length → Near base (ix (rowAt x j) l) (ix (rowAt Y.cells j) l))) (fun i => x.length - (intOf i).toNat)
  case atStart => exact ⟨0, Nat.zero_le _, rfl, fun j hj => by omega⟩
  case round =>
    obtain ⟨k, hk, rfl, hj⟩ := hrel
    have HJ := Lib.hid hj; clear hj
    by_cases hlt : k < x.length
    · have hlty : k < Y.cells.length := by have := HYL.out; omega
      obtain ⟨by_, oy, ar, cr, e6, hcy, s1, s2, s3⟩ := GY.out.at_ hlty
      subst e6
      have R3 := Lib.hid s3; clear s3
      obtain ⟨b', o', arx, crx, he, hcx, t1', t2', t3⟩ := GX.out.at_ hlt
      simp only [Option.some.injEq, Addr.mk.injEq, and_true] at he
      obtain ⟨rfl, rfl⟩ := he
      have X3 := Lib.hid t3; clear t3
      go_wp2
      go_loop [65] (fun i => ∃ l : Nat, l ≤ (rowAt x k).length ∧ i = .int .i64 l ∧ (∀ j, j < l → Near base (ix (rowAt x k) j) (ix (rowAt Y.cells k) j))) (fun i => (rowAt x k).length - (intOf i).toNat)
      case atStart => exact ⟨0, Nat.zero_le _, rfl, fun j hj => by omega⟩
      case round =>
        obtain ⟨l, hl, rfl, hj2⟩ := hrel
        have HJ2 := Lib.hid hj2; clear hj2
        by_cases hl2 : l < (rowAt x k).length
        · have hl2y : l < (rowAt Y.cells k).length := by have := HYR.out k hlt; have := HSH.out k hlt; omega
          obtain ⟨bq, oq, rfl, hcq⟩ := R3.out l hl2y
          obtain ⟨bz, oz, rfl, hcz⟩ := X3.out l hl2
          have h10 := gridB_elem HX.out hlt hl2
          cases hn : nearB base (ix (rowAt x k) l) (ix (rowAt Y.cells k) l)
          · have HB := Lib.hid (roundsB_false (x := x) (base := base) (Y := Y) (fun hh => by have := hh.cell k l hlt (by have := HSH.out k hlt; omega); simp [nearB, this] at hn))
            have HN := Lib.hid hn; clear hn
            go_wp2_with fail
            refine (isRounded_b false _ _ base _ HN.out hbs (by omega)).mono ?_
            rintro e w' ⟨rfl, rfl⟩
            go_wp2
            go_ret2
            rw [HB.out]
            exact ⟨rfl, VA⟩
          · have HNN := Lib.hid (show Near base (ix (rowAt x k) l) (ix (rowAt Y.cells k) l) from of_decide_eq_true hn)
            have HN := Lib.hid hn; clear hn
            go_wp2_with fail
            refine (isRounded_b true _ _ base _ HN.out hbs (by omega)).mono ?_
            rintro e wA ⟨rfl, rfl⟩
            go_wp2
            go_round
            case rel => exact ⟨l + 1, by omega, by go_num, fun j hj => by
              by_cases e : j = l
              · subst e; exact HNN.out
              · exact HJ2.out j (by omega)⟩
            case measure => simp [intOf]; omega
        · go_wp2
          go_round
          case rel => exact ⟨k + 1, by omega, by go_num, fun j hj => by
            by_cases e : j = k
            · subst e; exact fun l' hl' => HJ2.out l' (by have := HSH.out j hlt; omega)
            · exact HJ.out j (by omega)⟩
          case measure => simp [intOf]; omega
    · have HC := Lib.hid (show ∀ j, j < x.length → ∀ l, l < (rowAt x 0).length → Near base (ix (rowAt x j) l) (ix (rowAt Y.cells j) l) from fun j hj => HJ.out j (by omega))
      clear HJ
      have HMC := Lib.hid (matOk_cells HX.out HYL.out HYR.out (fun i j hi hj => by
        have h1 := HC.out i hi j hj
        have h2 := gridB_elem HX.out hi (j := j) (by rw [HSH.out i hi]; exact hj)
        have h3 := near_nonneg hbs.1 h2.1 h1
        have := h1.2.2
        omega))
      go_wp2_with fail
      refine (summed_c _ Y.cells _ _ (HY.out.f0.ext VA) HMC.out).mono ?_
      rintro e w2 ⟨v3, rfl, o3, u3⟩
      obtain ⟨⟨C2, R2, K2_, t2⟩, hT⟩ : ∃ T, margD Y.cells (rowAt x 0).length = T := ⟨_, rfl⟩
      rw [hT] at o3
      simp only [margD, Rd.mk.injEq] at hT
      obtain ⟨rfl, hTR, hTK, hTt⟩ := hT
      have RMf := o3.read
      clear o3
      obtain ⟨f0, g0, f1, g1, f2, g2, rfl, _⟩ := RMf.form
      obtain ⟨_, _, ez1, _, _, gz⟩ := RMf.f1
      simp only [Value.slice.injEq, true_and] at ez1
      obtain ⟨rfl, rfl⟩ := ez1
      have RZf := Lib.hid gz; clear gz
      obtain ⟨_, _, ez2, _, _, gz⟩ := RMf.f2
      simp only [Value.slice.injEq, true_and] at ez2
      obtain ⟨rfl, rfl⟩ := ez2
      have CZf := Lib.hid gz; clear gz
      have HRMf := Lib.hid RMf; clear RMf
      have HRf := Lib.hid hTR; clear hTR
      have HKf := Lib.hid hTK; clear hTK
      have HTf := Lib.hid hTt; clear hTt
      have uB := (Ext.refl w2).alloc (.cells #[.slice f0 Y.cells.length g0, .slice f1 R2.length g1, .slice f2 K2_.length g2, .int .i64 t2] 39)
      have bB := Box.new w2 39 #[.slice f0 Y.cells.length g0, .slice f1 R2.length g1, .slice f2 K2_.length g2, .int .i64 t2] rfl
      have bAB := (HBA.out.ext u3).ext uB
      have bYB := (HBY.out.ext u3).ext uB
      have VB := (VA.trans u3).trans uB
      have uAB := u3.trans uB
      obtain ⟨wB, hwB⟩ : ∃ wB, wB = w2.alloc (.cells #[.slice f0 Y.cells.length g0, .slice f1 R2.length g1, .slice f2 K2_.length g2, .int .i64 t2] 39) := ⟨_, rfl⟩
      rw [← hwB] at uB bB bAB bYB VB uAB
      go_upto_region 17 with fail
      rw [← hwB]
      clear hwB y0 y1 y2 y3 z0 z1 z2 z3
      have y0 := bYB.cell 0 (by simp)
      have y1 := bYB.cell 1 (by simp)
      have y2 := bYB.cell 2 (by simp)
      have y3 := bYB.cell 3 (by simp)
      have z0 := bAB.cell 0 (by simp)
      have z1 := bAB.cell 1 (by simp)
      have z2 := bAB.cell 2 (by simp)
      have z3 := bAB.cell 3 (by simp)
      have s0 := bB.cell 0 (by simp)
      have s1 := bB.cell 1 (by simp)
      have s2 := bB.cell 2 (by simp)
      have s3 := bB.cell 3 (by simp)

      have HBY' := Lib.hid bYB; clear bYB
      have HBA' := Lib.hid bAB; clear bAB
      have HBB' := Lib.hid bB; clear bB
      cases k6 : decide (R2 = Y.rows)
      · have HB := Lib.hid (roundsB_false (x := x) (base := base) (Y := Y) (fun hh => by have := hh.rsum; rw [HRf.out] at this; simp [this] at k6))
        have K6 := Lib.hid k6; clear k6
        go_wp2_with fail
        refine (equalI_b false _ _ R2 Y.rows _ K6.out (HRMf.out.f1.ext uB) (HY.out.f1.ext VB)).mono ?_
        rintro e w' ⟨rfl, n3, rfl⟩
        go_wp2
        go_ret2
        rw [HB.out]
        exact ⟨rfl, VB.drewN _⟩
      have HRR := Lib.hid (of_decide_eq_true k6)
      have K6 := Lib.hid k6; clear k6
      go_wp2_with fail
      refine (equalI_b true _ _ R2 Y.rows _ K6.out (HRMf.out.f1.ext uB) (HY.out.f1.ext VB)).mono ?_
      rintro e w3 ⟨rfl, n3, hw3⟩
      have E3 : Ext wB w3 := by rw [hw3]; exact (Ext.refl wB).drewN n3
      clear hw3
      clear y0 y1 y2 y3 z0 z1 z2 z3 s0 s1 s2 s3
      have bY3 := HBY'.out.ext E3
      have bA3 := HBA'.out.ext E3
      have bB3 := HBB'.out.ext E3
      have y0 := bY3.cell 0 (by simp)
      have y1 := bY3.cell 1 (by simp)
      have y2 := bY3.cell 2 (by simp)
      have y3 := bY3.cell 3 (by simp)
      have z0 := bA3.cell 0 (by simp)
      have z1 := bA3.cell 1 (by simp)
      have z2 := bA3.cell 2 (by simp)
      have z3 := bA3.cell 3 (by simp)
      have s0 := bB3.cell 0 (by simp)
      have s1 := bB3.cell 1 (by simp)
      have s2 := bB3.cell 2 (by simp)
      have s3 := bB3.cell 3 (by simp)

      clear bY3 bA3 bB3
      have V3 := VB.trans E3
      cases k7 : decide (K2_ = Y.cols)
      · have HB := Lib.hid (roundsB_false (x := x) (base := base) (Y := Y) (fun hh => by have := hh.csum; rw [HKf.out] at this; simp [this] at k7))
        have K7 := Lib.hid k7; clear k7
        go_wp2_with fail
        refine (equalI_b false _ _ K2_ Y.cols _ K7.out (HRMf.out.f2.ext (uB.trans E3)) (HY.out.f2.ext V3)).mono ?_
        rintro e w' ⟨rfl, n4, rfl⟩
        go_wp2
        go_ret2
        rw [HB.out]
        exact ⟨rfl, V3.drewN _⟩
      have HKK := Lib.hid (of_decide_eq_true k7)
      have K7 := Lib.hid k7; clear k7
      go_wp2_with fail
      refine (equalI_b true _ _ K2_ Y.cols _ K7.out (HRMf.out.f2.ext (uB.trans E3)) (HY.out.f2.ext V3)).mono ?_
      rintro e w4 ⟨rfl, n4, hw4⟩
      have E4 : Ext wB w4 := by rw [hw4]; exact E3.drewN n4
      clear hw4
      clear y0 y1 y2 y3 z0 z1 z2 z3 s0 s1 s2 s3
      have bY4 := HBY'.out.ext E4
      have bA4 := HBA'.out.ext E4
      have bB4 := HBB'.out.ext E4
      have y0 := bY4.cell 0 (by simp)
      have y1 := bY4.cell 1 (by simp)
      have y2 := bY4.cell 2 (by simp)
      have y3 := bY4.cell 3 (by simp)
      have z0 := bA4.cell 0 (by simp)
      have z1 := bA4.cell 1 (by simp)
      have z2 := bA4.cell 2 (by simp)
      have z3 := bA4.cell 3 (by simp)
      have s0 := bB4.cell 0 (by simp)
      have s1 := bB4.cell 1 (by simp)
      have s2 := bB4.cell 2 (by simp)
      have s3 := bB4.cell 3 (by simp)

      clear bY4 bA4 bB4
      have V4 := VB.trans E4
      by_cases k8 : t2 = Y.total
      case neg =>
        have hd8 : (t2 != Y.total) = true := by simp [k8]
        have HB := Lib.hid (roundsB_false (x := x) (base := base) (Y := Y) (fun hh => k8 (by have := hh.tsum; rw [HTf.out] at this; exact this)))
        clear k8
        go_wp2
        go_ret2
        rw [HB.out]
        exact ⟨rfl, V4⟩
      have hd8 : (t2 != Y.total) = false := by simp [k8]
      have K8 := Lib.hid k8; clear k8
      have htt := totS_in HX.out
      rw [HTd.out] at htt
      have RYw := Lib.hid (RY0.out.ext V4)
      have CYw := Lib.hid (CY0.out.ext V4)
      have RZw := Lib.hid (RZd.out.ext ((uA.trans uAB).trans E4))
      have CZw := Lib.hid (CZd.out.ext ((uA.trans uAB).trans E4))
      have HLr : Hid (Y.rows.length = x.length ∧ R.length = x.length) := Lib.hid ⟨K2.out, HRl.out⟩
      have HLc : Hid (Y.cols.length = (rowAt x 0).length ∧ K.length = (rowAt x 0).length) := Lib.hid ⟨K3.out, HKl.out⟩
      go_wp2
      go_loop [111] (fun i => ∃ k : Nat, k ≤ R.length ∧ i = .int .i64 k ∧ (∀ j, j < k → Near base (ix R j) (ix Y.rows j))) (fun i => R.length - (intOf i).toNat)
      case atStart => exact ⟨0, Nat.zero_le _, rfl, fun j hj => by omega⟩
      case round =>
        obtain ⟨k, hk, rfl, hj⟩ := hrel
        have HJ := Lib.hid hj; clear hj
        by_cases hlt : k < R.length
        · have ltA : k < R.length := by have := HLr.out; omega
          have ltB : k < Y.rows.length := by have := HLr.out; omega
          obtain ⟨ba, oa, ea, hca⟩ := RZw.out k ltA
          obtain ⟨bb, ob, eb, hcb⟩ := RYw.out k ltB
          subst ea; subst eb
          have hb1 := rowS_in HX.out (i := k) (by have := HLr.out; omega)
          rw [HRd.out] at hb1
          cases hn : nearB base (ix R k) (ix Y.rows k)
          · have HB := Lib.hid (roundsB_false (x := x) (base := base) (Y := Y) (fun hh => by have := hh.rnear k (by have := HLr.out; omega); rw [HRd.out] at this; simp [nearB, this] at hn))
            have HN := Lib.hid hn; clear hn
            go_wp2_with fail
            refine (isRounded_b false _ _ base _ HN.out hbs (by omega)).mono ?_
            rintro e w' ⟨rfl, rfl⟩
            go_wp2
            go_ret2
            rw [HB.out]
            exact ⟨rfl, V4⟩
          · have HNN := Lib.hid (show Near base (ix R k) (ix Y.rows k) from of_decide_eq_true hn)
            have HN := Lib.hid hn; clear hn
            go_wp2_with fail
            refine (isRounded_b true _ _ base _ HN.out hbs (by omega)).mono ?_
            rintro e w' ⟨rfl, rfl⟩
            go_wp2
            go_round
            case rel => exact ⟨k + 1, by omega, by go_num, fun j hj => by
              by_cases e : j = k
              · subst e; exact HNN.out
              · exact HJ.out j (by omega)⟩
            case measure => simp [intOf]; omega
        · have RN := Lib.hid (show ∀ j, j < R.length → Near base (ix R j) (ix Y.rows j) from fun j hj => HJ.out j (by omega))
          clear HJ
          go_wp2
          go_loop [129] (fun i => ∃ k : Nat, k ≤ K.length ∧ i = .int .i64 k ∧ (∀ j, j < k → Near base (ix K j) (ix Y.cols j))) (fun i => K.length - (intOf i).toNat)
          case atStart => exact ⟨0, Nat.zero_le _, rfl, fun j hj => by omega⟩
          case round =>
            obtain ⟨k, hk, rfl, hj⟩ := hrel
            have HJ := Lib.hid hj; clear hj
            by_cases hlt : k < K.length
            · have ltA : k < K.length := by have := HLc.out; omega
              have ltB : k < Y.cols.length := by have := HLc.out; omega
              obtain ⟨ba, oa, ea, hca⟩ := CZw.out k ltA
              obtain ⟨bb, ob, eb, hcb⟩ := CYw.out k ltB
              subst ea; subst eb
              have hb1 := colS_in HX.out (j := k) (by have := HLc.out; omega)
              rw [HKd.out] at hb1
              cases hn : nearB base (ix K k) (ix Y.cols k)
              · have HB := Lib.hid (roundsB_false (x := x) (base := base) (Y := Y) (fun hh => by have := hh.cnear k (by have := HLc.out; omega); rw [HKd.out] at this; simp [nearB, this] at hn))
                have HN := Lib.hid hn; clear hn
                go_wp2_with fail
                refine (isRounded_b false _ _ base _ HN.out hbs (by omega)).mono ?_
                rintro e w' ⟨rfl, rfl⟩
                go_wp2
                go_ret2
                rw [HB.out]
                exact ⟨rfl, V4⟩
              · have HNN := Lib.hid (show Near base (ix K k) (ix Y.cols k) from of_decide_eq_true hn)
                have HN := Lib.hid hn; clear hn
                go_wp2_with fail
                refine (isRounded_b true _ _ base _ HN.out hbs (by omega)).mono ?_
                rintro e w' ⟨rfl, rfl⟩
                go_wp2
                go_round
                case rel => exact ⟨k + 1, by omega, by go_num, fun j hj => by
                  by_cases e : j = k
                  · subst e; exact HNN.out
                  · exact HJ.out j (by omega)⟩
                case measure => simp [intOf]; omega
            · have CN := Lib.hid (show ∀ j, j < K.length → Near base (ix K j) (ix Y.cols j) from fun j hj => HJ.out j (by omega))
              clear HJ
              obtain ⟨b, hb⟩ : ∃ b, nearB base t Y.total = b := ⟨_, rfl⟩
              have HB := Lib.hid (roundsB_iff (x := x) (base := base) (Y := Y) b ⟨fun hh => ⟨HYL.out, HYR.out, K2.out, K3.out, fun i j hi hj => HC.out i hi j hj, by rw [HRf.out]; exact HRR.out, by rw [HKf.out]; exact HKK.out, by rw [HTf.out]; exact K8.out, fun i hi => by rw [HRd.out]; exact RN.out i (by have := HLr.out; omega), fun j hj => by rw [HKd.out]; exact CN.out j (by have := HLc.out; omega), by rw [HTd.out]; rw [hh] at hb; exact of_decide_eq_true hb⟩, fun hh => by have := hh.tnear; rw [HTd.out] at this; rw [← hb]; exact decide_eq_true this⟩)
              have HBN := Lib.hid hb; clear hb
              go_wp2_with fail
              refine (isRounded_b b _ _ base _ HBN.out hbs (by omega)).mono ?_
              rintro e w' ⟨rfl, rfl⟩
              go_wp2
              go_ret2
              rw [HB.out]
              exact ⟨rfl, V4⟩
end Go.Proofs.Ytmffhipfodlomaa
