/- Cuts: the walks, and CheckCut. -/
import Derived.Test.YthdfiebacomilaaCut
namespace Go.Proofs.Ythdfiebacomilaa
open Go.RowKit
open Fm

theorem TrOk.rowv {T : Tr} (h : TrOk T) {i : Nat} (hi : i < T.rows.length) : 0 ≤ ix T.rows i ∧ ix T.rows i ≤ 100000 := by
  have h1 := h.1
  simp only [sumsB, Bool.and_eq_true] at h1
  exact allIn_true h1.2 hi
theorem TrOk.colv {T : Tr} (h : TrOk T) {i : Nat} (hi : i < T.cols.length) : 0 ≤ ix T.cols i ∧ ix T.cols i ≤ 100000 := by
  have h1 := h.2.1
  simp only [sumsB, Bool.and_eq_true] at h1
  exact allIn_true h1.2 hi
theorem cutEl_bound {T : Tr} (h : TrOk T) {rows cols : List Int} {i j : Nat} (hi : i < T.rows.length) (hj : j < T.cols.length) : -100000 ≤ cutEl T rows cols i j ∧ cutEl T rows cols i j ≤ 100000 := by
  have := h.cell hi hj
  unfold cellOk at this
  unfold cutEl
  split <;> split <;> omega

set_option maxHeartbeats 6400000 in
theorem tCut_c (v : Value) (T : Tr) (v1 : Value) (rows : List Int) (v2 : Value) (cols : List Int) (w : World) (h : TrR w v T) (h1 : Ints w v1 rows) (h2 : Ints w v2 cols) (ho : TrOk T) (hr : Rising (T.rows.length : Int) rows) (hc : Rising (T.cols.length : Int) cols) :
    Calls Try.prog 52 #[v, v1, v2] w fun e w' => e = .returned (.bool (cutB T rows cols)) ∧ Ext w w' := by
  have H := Lib.hid h
  obtain ⟨a0, c0, a1, c1, a2, c2, a3, c3, rfl, n0, n1, n2, n3⟩ := h.form
  clear h
  obtain ⟨_, _, e0, p0, p0', g0⟩ := H.out.f0
  simp only [Value.slice.injEq, true_and] at e0
  obtain ⟨rfl, rfl⟩ := e0
  obtain ⟨_, _, e1, p1, p1', g1⟩ := H.out.f1
  simp only [Value.slice.injEq, true_and] at e1
  obtain ⟨rfl, rfl⟩ := e1
  obtain ⟨_, _, e2, p2, p2', g2⟩ := H.out.f2
  simp only [Value.slice.injEq, true_and] at e2
  obtain ⟨rfl, rfl⟩ := e2
  obtain ⟨_, _, e3, p3, p3', g3⟩ := H.out.f3
  simp only [Value.slice.injEq, true_and] at e3
  obtain ⟨rfl, rfl⟩ := e3
  have u0 := (Ext.refl w).alloc (.cells #[.slice a0 T.rows.length c0, .slice a1 T.cols.length c1, .slice a2 T.lo.length c2, .slice a3 T.hi.length c3] 29)
  have b0 := Box.new w 29 #[.slice a0 T.rows.length c0, .slice a1 T.cols.length c1, .slice a2 T.lo.length c2, .slice a3 T.hi.length c3] rfl
  have k0 := b0.cell 0 (by simp)
  have k1 := b0.cell 1 (by simp)
  have k2 := b0.cell 2 (by simp)
  have k3 := b0.cell 3 (by simp)
  have GR := Lib.hid (g0.ext u0); clear g0
  have GC := Lib.hid (g1.ext u0); clear g1
  have GLO := Lib.hid (g2.ext u0); clear g2
  have GHI := Lib.hid (g3.ext u0); clear g3
  have d := ho.dims
  have HD := Lib.hid d
  obtain ⟨dn1, dn8, dm1, dm8, de1, de2⟩ := d
  clear de1 de2
  have HO := Lib.hid ho; clear ho
  have lr := hr.length (by omega)
  have lc := hc.length (by omega)
  have HRI := Lib.hid hr; clear hr
  have HCI := Lib.hid hc; clear hc
  have H1 := Lib.hid (h1.ext u0)
  have H2 := Lib.hid (h2.ext u0)
  obtain ⟨ar, cr, rfl, r1, r2, r3⟩ := h1
  obtain ⟨ac, cc, rfl, s1, s2, s3⟩ := h2
  have GRL := Lib.hid (r3.ext u0); clear r3
  have GCL := Lib.hid (s3.ext u0); clear s3
  go_enter Try.func52, Try.ntmps52
  go_wp2
  go_loop [7, 17] (fun s i => ∃ k : Nat, k ≤ rows.length ∧ i = .int .i64 k ∧ s = .int .i64 (pickS T.rows (rows.take k)) ∧ (0 ≤ pickS T.rows (rows.take k) ∧ pickS T.rows (rows.take k) ≤ 100000 * k)) (fun _ i => rows.length - (intOf i).toNat)
  case atStart => exact ⟨0, Nat.zero_le _, rfl, by simp [pickS], by simp [pickS]⟩
  case round =>
    obtain ⟨k, hk, rfl, rfl, hb⟩ := hrel
    by_cases hlt : k < rows.length
    · obtain ⟨bl, ol, rfl, hcl⟩ := GRL.out k hlt
      obtain ⟨r, hr⟩ : ∃ r : Nat, ix rows k = (r : Int) := ⟨(ix rows k).toNat, by have := (HRI.out k hlt).1; omega⟩
      have hrn : r < T.rows.length := by have := (HRI.out k hlt).1; omega
      rw [hr] at hcl
      obtain ⟨br, or, rfl, hcr⟩ := GR.out r hrn
      have hv := HO.out.rowv hrn
      have hst : pickS T.rows (rows.take (k + 1)) = pickS T.rows (rows.take k) + ix T.rows r := by rw [pickS_take hlt, hr, Int.toNat_natCast]
      have HST := Lib.hid hst; clear hst
      have HR' := Lib.hid hr; clear hr
      obtain ⟨P, hP⟩ : ∃ P, pickS T.rows (rows.take k) = P := ⟨_, rfl⟩
      rw [hP] at hb ⊢
      have HP := Lib.hid hP; clear hP
      go_wp2
      go_round
      case rel => exact ⟨k + 1, by omega, by go_num, by rw [HST.out, HP.out]; try exact congrArg (Value.int IntKind.i64) (by omega), by rw [HST.out, HP.out]; omega⟩
      case measure => simp [intOf]; omega
    · have hkk : rows.take k = rows := List.take_of_length_le (by omega)
      rw [hkk] at hb ⊢
      clear hkk
      have hk8 : k ≤ 8 := by omega
      obtain ⟨LV, hLV⟩ : ∃ P, pickS T.rows rows = P := ⟨_, rfl⟩
      rw [hLV] at hb ⊢
      have HLV := Lib.hid hLV; clear hLV
      have hbl : 0 ≤ LV ∧ LV ≤ 800000 := by omega
      clear hb
      go_wp2
      go_loop [8, 31] (fun s i => ∃ k : Nat, k ≤ cols.length ∧ i = .int .i64 k ∧ s = .int .i64 (pickS T.cols (cols.take k)) ∧ (0 ≤ pickS T.cols (cols.take k) ∧ pickS T.cols (cols.take k) ≤ 100000 * k)) (fun _ i => cols.length - (intOf i).toNat)
      case atStart => exact ⟨0, Nat.zero_le _, rfl, by simp [pickS], by simp [pickS]⟩
      case round =>
        obtain ⟨k, hk, rfl, rfl, hb⟩ := hrel
        by_cases hlt : k < cols.length
        · obtain ⟨bl, ol, rfl, hcl⟩ := GCL.out k hlt
          obtain ⟨r, hr⟩ : ∃ r : Nat, ix cols k = (r : Int) := ⟨(ix cols k).toNat, by have := (HCI.out k hlt).1; omega⟩
          have hrn : r < T.cols.length := by have := (HCI.out k hlt).1; omega
          rw [hr] at hcl
          obtain ⟨br, or, rfl, hcr⟩ := GC.out r hrn
          have hv := HO.out.colv hrn
          have hst : pickS T.cols (cols.take (k + 1)) = pickS T.cols (cols.take k) + ix T.cols r := by rw [pickS_take hlt, hr, Int.toNat_natCast]
          have HST := Lib.hid hst; clear hst
          have HR' := Lib.hid hr; clear hr
          obtain ⟨P, hP⟩ : ∃ P, pickS T.cols (cols.take k) = P := ⟨_, rfl⟩
          rw [hP] at hb ⊢
          have HP := Lib.hid hP; clear hP
          go_wp2
          go_round
          case rel => exact ⟨k + 1, by omega, by go_num, by rw [HST.out, HP.out]; try exact congrArg (Value.int IntKind.i64) (by omega), by rw [HST.out, HP.out]; omega⟩
          case measure => simp [intOf]; omega
        · have hkk : cols.take k = cols := List.take_of_length_le (by omega)
          rw [hkk] at hb ⊢
          clear hkk
          have hk8' : k ≤ 8 := by omega
          obtain ⟨CV, hCV⟩ : ∃ P, pickS T.cols cols = P := ⟨_, rfl⟩
          rw [hCV] at hb ⊢
          have HCV := Lib.hid hCV; clear hCV
          have hbc : 0 ≤ CV ∧ CV ≤ 800000 := by omega
          clear hb
          go_wp2
          go_loop [8, 46] (fun s i => ∃ k : Nat, k ≤ T.rows.length ∧ i = .int .i64 k ∧ s = .int .i64 (CV + cutD T rows cols k 0) ∧ (-800000 * k ≤ cutD T rows cols k 0 ∧ cutD T rows cols k 0 ≤ 800000 * k)) (fun _ i => T.rows.length - (intOf i).toNat)
          case atStart => exact ⟨0, Nat.zero_le _, rfl, by simp [cutD_zero], by simp [cutD_zero]⟩
          case round =>
            obtain ⟨k, hk, rfl, rfl, hb⟩ := hrel
            by_cases hlt : k < T.rows.length
            · obtain ⟨bl, ol, arl, crl, e4, hcl, t1, t2, t3⟩ := GLO.out.at_ (k := k) (by have := HD.out; omega)
              subst e4
              have RL := Lib.hid t3; clear t3
              obtain ⟨bh, oh, arh, crh, e5, hch, t4, t5, t6⟩ := GHI.out.at_ (k := k) (by have := HD.out; omega)
              subst e5
              have RH := Lib.hid t6; clear t6
              have HRW := Lib.hid (HO.out.rowlen hlt)
              have i1 : (k : Int) < (T.lo.length : Int) := by have := HD.out; omega
              have i2 : (k : Int) < (T.hi.length : Int) := by have := HD.out; omega
              go_wp2
              go_loop [8, 52] (fun s i => ∃ l : Nat, l ≤ T.cols.length ∧ i = .int .i64 l ∧ s = .int .i64 (CV + cutD T rows cols k l) ∧ (-800000 * k - 100000 * l ≤ cutD T rows cols k l ∧ cutD T rows cols k l ≤ 800000 * k + 100000 * l)) (fun _ i => T.cols.length - (intOf i).toNat)
              case atStart => exact ⟨0, Nat.zero_le _, rfl, rfl, by omega⟩
              case round =>
                obtain ⟨l, hl, rfl, rfl, hb2⟩ := hrel
                by_cases hl2 : l < T.cols.length
                · obtain ⟨b3, o3, rfl, hc3⟩ := RL.out l (by have := HRW.out; omega)
                  obtain ⟨b4, o4, rfl, hc4⟩ := RH.out l (by have := HRW.out; omega)
                  have hce := HO.out.cell hlt hl2
                  unfold cellOk at hce
                  have hlr : l < (rowAt T.lo k).length := by have := HRW.out; omega
                  have hhr : l < (rowAt T.hi k).length := by have := HRW.out; omega
                  have HS := Lib.hid (cutD_succ T rows cols k l)
                  obtain ⟨Dv, hDv⟩ : ∃ P, cutD T rows cols k l = P := ⟨_, rfl⟩
                  rw [hDv] at hb2 ⊢
                  have HDv := Lib.hid hDv; clear hDv
                  cases hir : hasI rows (k : Int) <;> cases hic : hasI cols (l : Int)
                  · have HEL := Lib.hid (show cutEl T rows cols k l = 0 by simp [cutEl, hir, hic])
                    have HQ1 := Lib.hid hir; have HQ2 := Lib.hid hic
                    clear hir hic
                    go_wp2_with fail
                    refine (l1Has_b false _ rows (k : Int) _ HQ1.out H1.out).mono ?_
                    rintro e w' ⟨rfl, rfl⟩
                    go_wp2_with fail
                    refine (l1Has_b false _ rows (k : Int) _ HQ1.out H1.out).mono ?_
                    rintro e w' ⟨rfl, rfl⟩
                    go_wp2_with fail
                    refine (l1Has_b false _ cols (l : Int) _ HQ2.out H2.out).mono ?_
                    rintro e w' ⟨rfl, rfl⟩
                    go_wp2
                    go_round
                    case rel => exact ⟨l + 1, by omega, by go_num, by rw [HS.out, HDv.out, HEL.out]; try exact congrArg (Value.int IntKind.i64) (by omega), by rw [HS.out, HDv.out, HEL.out]; omega⟩
                    case measure => simp [intOf]; omega
                  · have HEL := Lib.hid (show cutEl T rows cols k l = - ix (rowAt T.lo k) l by simp [cutEl, hir, hic])
                    have HQ1 := Lib.hid hir; have HQ2 := Lib.hid hic
                    clear hir hic
                    go_wp2_with fail
                    refine (l1Has_b false _ rows (k : Int) _ HQ1.out H1.out).mono ?_
                    rintro e w' ⟨rfl, rfl⟩
                    go_wp2_with fail
                    refine (l1Has_b false _ rows (k : Int) _ HQ1.out H1.out).mono ?_
                    rintro e w' ⟨rfl, rfl⟩
                    go_wp2_with fail
                    refine (l1Has_b true _ cols (l : Int) _ HQ2.out H2.out).mono ?_
                    rintro e w' ⟨rfl, rfl⟩
                    go_wp2
                    go_round
                    case rel => exact ⟨l + 1, by omega, by go_num, by rw [HS.out, HDv.out, HEL.out]; try exact congrArg (Value.int IntKind.i64) (by omega), by rw [HS.out, HDv.out, HEL.out]; omega⟩
                    case measure => simp [intOf]; omega
                  · have HEL := Lib.hid (show cutEl T rows cols k l = ix (rowAt T.hi k) l by simp [cutEl, hir, hic])
                    have HQ1 := Lib.hid hir; have HQ2 := Lib.hid hic
                    clear hir hic
                    go_wp2_with fail
                    refine (l1Has_b true _ rows (k : Int) _ HQ1.out H1.out).mono ?_
                    rintro e w' ⟨rfl, rfl⟩
                    go_wp2_with fail
                    refine (l1Has_b false _ cols (l : Int) _ HQ2.out H2.out).mono ?_
                    rintro e w' ⟨rfl, rfl⟩
                    go_wp2_with fail
                    refine (l1Has_b true _ rows (k : Int) _ HQ1.out H1.out).mono ?_
                    rintro e w' ⟨rfl, rfl⟩
                    go_wp2
                    go_round
                    case rel => exact ⟨l + 1, by omega, by go_num, by rw [HS.out, HDv.out, HEL.out]; try exact congrArg (Value.int IntKind.i64) (by omega), by rw [HS.out, HDv.out, HEL.out]; omega⟩
                    case measure => simp [intOf]; omega
                  · have HEL := Lib.hid (show cutEl T rows cols k l = 0 by simp [cutEl, hir, hic])
                    have HQ1 := Lib.hid hir; have HQ2 := Lib.hid hic
                    clear hir hic
                    go_wp2_with fail
                    refine (l1Has_b true _ rows (k : Int) _ HQ1.out H1.out).mono ?_
                    rintro e w' ⟨rfl, rfl⟩
                    go_wp2_with fail
                    refine (l1Has_b true _ cols (l : Int) _ HQ2.out H2.out).mono ?_
                    rintro e w' ⟨rfl, rfl⟩
                    go_wp2_with fail
                    refine (l1Has_b true _ rows (k : Int) _ HQ1.out H1.out).mono ?_
                    rintro e w' ⟨rfl, rfl⟩
                    go_wp2
                    go_round
                    case rel => exact ⟨l + 1, by omega, by go_num, by rw [HS.out, HDv.out, HEL.out]; try exact congrArg (Value.int IntKind.i64) (by omega), by rw [HS.out, HDv.out, HEL.out]; omega⟩
                    case measure => simp [intOf]; omega
                · have hll : l = T.cols.length := by omega
                  have HN := Lib.hid (show cutD T rows cols (k + 1) 0 = cutD T rows cols k l by rw [cutD_next, hll]); clear hll
                  go_wp2
                  go_round
                  case rel => exact ⟨k + 1, by omega, by go_num, by rw [HN.out], by rw [HN.out]; omega⟩
                  case measure => simp [intOf]; omega
            · have hkn : k = T.rows.length := by omega
              have HKN := Lib.hid hkn; clear hkn
              obtain ⟨Dv, hDv⟩ : ∃ P, cutD T rows cols k 0 = P := ⟨_, rfl⟩
              rw [hDv] at hb ⊢
              have HDv := Lib.hid hDv; clear hDv
              go_wp2
              go_ret
              have : cutB T rows cols = decide (CV + Dv < LV) := by unfold cutB; rw [HCV.out, HLV.out, ← HKN.out, HDv.out]
              rw [this]
              exact ⟨rfl, u0⟩
set_option maxHeartbeats 6400000 in
theorem isCut_c (v : Value) (T : Tr) (v1 : Value) (rows : List Int) (v2 : Value) (cols : List Int) (w : World) (h : TrR w v T) (h1 : Ints w v1 rows) (h2 : Ints w v2 cols) (ho : TrOk T) (hr : Rising (T.rows.length : Int) rows) (hc : Rising (T.cols.length : Int) cols) :
    Calls Try.prog 55 #[v, v1, v2] w fun e w' => e = .returned (.bool (cutB T rows cols)) ∧ Ext w w' := by
  have H := Lib.hid h
  obtain ⟨a0, c0, a1, c1, a2, c2, a3, c3, rfl, n0, n1, n2, n3⟩ := h.form
  clear h
  obtain ⟨_, _, e0, p0, p0', g0⟩ := H.out.f0
  simp only [Value.slice.injEq, true_and] at e0
  obtain ⟨rfl, rfl⟩ := e0
  obtain ⟨_, _, e1, p1, p1', g1⟩ := H.out.f1
  simp only [Value.slice.injEq, true_and] at e1
  obtain ⟨rfl, rfl⟩ := e1
  obtain ⟨_, _, e2, p2, p2', g2⟩ := H.out.f2
  simp only [Value.slice.injEq, true_and] at e2
  obtain ⟨rfl, rfl⟩ := e2
  obtain ⟨_, _, e3, p3, p3', g3⟩ := H.out.f3
  simp only [Value.slice.injEq, true_and] at e3
  obtain ⟨rfl, rfl⟩ := e3
  have u0 := (Ext.refl w).alloc (.cells #[.slice a0 T.rows.length c0, .slice a1 T.cols.length c1, .slice a2 T.lo.length c2, .slice a3 T.hi.length c3] 29)
  have b0 := Box.new w 29 #[.slice a0 T.rows.length c0, .slice a1 T.cols.length c1, .slice a2 T.lo.length c2, .slice a3 T.hi.length c3] rfl
  have k0 := b0.cell 0 (by simp)
  have k1 := b0.cell 1 (by simp)
  have k2 := b0.cell 2 (by simp)
  have k3 := b0.cell 3 (by simp)
  have GR := Lib.hid (g0.ext u0); clear g0
  have GC := Lib.hid (g1.ext u0); clear g1
  have GLO := Lib.hid (g2.ext u0); clear g2
  have GHI := Lib.hid (g3.ext u0); clear g3
  have d := ho.dims
  have HD := Lib.hid d
  obtain ⟨dn1, dn8, dm1, dm8, de1, de2⟩ := d
  clear de1 de2
  have HO := Lib.hid ho; clear ho
  have lr := hr.length (by omega)
  have lc := hc.length (by omega)
  have HRI := Lib.hid hr; clear hr
  have HCI := Lib.hid hc; clear hc
  have H1 := Lib.hid (h1.ext u0)
  have H2 := Lib.hid (h2.ext u0)
  obtain ⟨ar, cr, rfl, r1, r2, r3⟩ := h1
  obtain ⟨ac, cc, rfl, s1, s2, s3⟩ := h2
  have GRL := Lib.hid (r3.ext u0); clear r3
  have GCL := Lib.hid (s3.ext u0); clear s3
  go_enter Try.func55, Try.ntmps55
  go_wp2
  go_loop [7, 8, 19] (fun s t i => ∃ k : Nat, k ≤ T.rows.length ∧ i = .int .i64 k ∧ s = .int .i64 (S k fun i => if hasI rows (i : Int) = true then ix T.rows i else 0) ∧ t = .int .i64 (cutD T rows cols k 0) ∧ (0 ≤ (S k fun i => if hasI rows (i : Int) = true then ix T.rows i else 0) ∧ (S k fun i => if hasI rows (i : Int) = true then ix T.rows i else 0) ≤ 100000 * k) ∧ (-800000 * k ≤ cutD T rows cols k 0 ∧ cutD T rows cols k 0 ≤ 800000 * k)) (fun _ _ i => T.rows.length - (intOf i).toNat)
  case atStart => exact ⟨0, Nat.zero_le _, rfl, rfl, rfl, by simp [S], by simp [cutD_zero]⟩
  case round =>
    obtain ⟨k, hk, rfl, rfl, rfl, hbs, hb⟩ := hrel
    by_cases hlt : k < T.rows.length
    · obtain ⟨brw, orw, e6, hcr⟩ := GR.out k hlt
      subst e6
      obtain ⟨bl, ol, arl, crl, e4, hcl, t1, t2, t3⟩ := GLO.out.at_ (k := k) (by have := HD.out; omega)
      subst e4
      have RL := Lib.hid t3; clear t3
      obtain ⟨bh, oh, arh, crh, e5, hch, t4, t5, t6⟩ := GHI.out.at_ (k := k) (by have := HD.out; omega)
      subst e5
      have RH := Lib.hid t6; clear t6
      have HRW := Lib.hid (HO.out.rowlen hlt)
      have i1 : (k : Int) < (T.lo.length : Int) := by have := HD.out; omega
      have i2 : (k : Int) < (T.hi.length : Int) := by have := HD.out; omega
      have hv := HO.out.rowv hlt
      obtain ⟨Lv, hLv⟩ : ∃ P, (S k fun i => if hasI rows (i : Int) = true then ix T.rows i else 0) = P := ⟨_, rfl⟩
      have hLs : (S (k + 1) fun i => if hasI rows (i : Int) = true then ix T.rows i else 0) = Lv + (if hasI rows (k : Int) = true then ix T.rows k else 0) := by rw [← hLv]; rfl
      rw [hLv] at hbs ⊢
      have HLs := Lib.hid hLs; clear hLs
      have HLv := Lib.hid hLv; clear hLv
      cases hir : hasI rows (k : Int)
      · have HLA := Lib.hid (show (S (k + 1) fun i => if hasI rows (i : Int) = true then ix T.rows i else 0) = Lv by rw [HLs.out, hir]; simp)
        have HQ1 := Lib.hid hir; clear hir
        have hbA : 0 ≤ Lv ∧ Lv ≤ 100000 * k + 100000 := by omega
        go_wp2_with fail
        refine (containsI_b false _ rows (k : Int) _ HQ1.out H1.out).mono ?_
        rintro e w' ⟨rfl, rfl⟩
        go_wp2
        go_loop [8, 34] (fun t i => ∃ l : Nat, l ≤ T.cols.length ∧ i = .int .i64 l ∧ t = .int .i64 (cutD T rows cols k l) ∧ (-800000 * k - 100000 * l ≤ cutD T rows cols k l ∧ cutD T rows cols k l ≤ 800000 * k + 100000 * l)) (fun _ i => T.cols.length - (intOf i).toNat)
        case atStart => exact ⟨0, Nat.zero_le _, rfl, rfl, by omega⟩
        case round =>
          obtain ⟨l, hl, rfl, rfl, hb2⟩ := hrel
          by_cases hl2 : l < T.cols.length
          · obtain ⟨b3, o3, e7, hc3⟩ := RL.out l (by have := HRW.out; omega)
            obtain ⟨b4, o4, e8, hc4⟩ := RH.out l (by have := HRW.out; omega)
            subst e7; subst e8
            have hce := HO.out.cell hlt hl2
            unfold cellOk at hce
            have hlr : l < (rowAt T.lo k).length := by have := HRW.out; omega
            have hhr : l < (rowAt T.hi k).length := by have := HRW.out; omega
            have HS := Lib.hid (cutD_succ T rows cols k l)
            obtain ⟨Dv, hDv⟩ : ∃ P, cutD T rows cols k l = P := ⟨_, rfl⟩
            rw [hDv] at hb2 ⊢
            have HDv := Lib.hid hDv; clear hDv
            cases hic : hasI cols (l : Int)
            · have HEL := Lib.hid (show cutEl T rows cols k l = 0 by simp [cutEl, HQ1.out, hic])
              have HQ2 := Lib.hid hic; clear hic
              go_wp2_with fail
              refine (containsI_b false _ cols (l : Int) _ HQ2.out H2.out).mono ?_
              rintro e w' ⟨rfl, rfl⟩
              go_wp2
              go_round
              case rel => exact ⟨l + 1, by omega, by go_num, by rw [HS.out, HDv.out, HEL.out]; try exact congrArg (Value.int IntKind.i64) (by omega), by rw [HS.out, HDv.out, HEL.out]; omega⟩
              case measure => simp [intOf]; omega
            · have HEL := Lib.hid (show cutEl T rows cols k l = - ix (rowAt T.lo k) l by simp [cutEl, HQ1.out, hic])
              have HQ2 := Lib.hid hic; clear hic
              go_wp2_with fail
              refine (containsI_b true _ cols (l : Int) _ HQ2.out H2.out).mono ?_
              rintro e w' ⟨rfl, rfl⟩
              go_wp2
              go_round
              case rel => exact ⟨l + 1, by omega, by go_num, by rw [HS.out, HDv.out, HEL.out]; try exact congrArg (Value.int IntKind.i64) (by omega), by rw [HS.out, HDv.out, HEL.out]; omega⟩
              case measure => simp [intOf]; omega
          · have hll : l = T.cols.length := by omega
            have HN := Lib.hid (show cutD T rows cols (k + 1) 0 = cutD T rows cols k l by rw [cutD_next, hll]); clear hll
            go_wp2
            go_round
            case rel => exact ⟨k + 1, by omega, by go_num, by rw [HLA.out], by rw [HN.out], by rw [HLA.out]; omega, by rw [HN.out]; omega⟩
            case measure => simp [intOf]; omega
      · have HLA := Lib.hid (show (S (k + 1) fun i => if hasI rows (i : Int) = true then ix T.rows i else 0) = Lv + ix T.rows k by rw [HLs.out, hir]; simp)
        have HQ1 := Lib.hid hir; clear hir
        have hbA : 0 ≤ Lv + ix T.rows k ∧ Lv + ix T.rows k ≤ 100000 * k + 100000 := by omega
        go_wp2_with fail
        refine (containsI_b true _ rows (k : Int) _ HQ1.out H1.out).mono ?_
        rintro e w' ⟨rfl, rfl⟩
        go_wp2
        go_loop [8, 34] (fun t i => ∃ l : Nat, l ≤ T.cols.length ∧ i = .int .i64 l ∧ t = .int .i64 (cutD T rows cols k l) ∧ (-800000 * k - 100000 * l ≤ cutD T rows cols k l ∧ cutD T rows cols k l ≤ 800000 * k + 100000 * l)) (fun _ i => T.cols.length - (intOf i).toNat)
        case atStart => exact ⟨0, Nat.zero_le _, rfl, rfl, by omega⟩
        case round =>
          obtain ⟨l, hl, rfl, rfl, hb2⟩ := hrel
          by_cases hl2 : l < T.cols.length
          · obtain ⟨b3, o3, e7, hc3⟩ := RL.out l (by have := HRW.out; omega)
            obtain ⟨b4, o4, e8, hc4⟩ := RH.out l (by have := HRW.out; omega)
            subst e7; subst e8
            have hce := HO.out.cell hlt hl2
            unfold cellOk at hce
            have hlr : l < (rowAt T.lo k).length := by have := HRW.out; omega
            have hhr : l < (rowAt T.hi k).length := by have := HRW.out; omega
            have HS := Lib.hid (cutD_succ T rows cols k l)
            obtain ⟨Dv, hDv⟩ : ∃ P, cutD T rows cols k l = P := ⟨_, rfl⟩
            rw [hDv] at hb2 ⊢
            have HDv := Lib.hid hDv; clear hDv
            cases hic : hasI cols (l : Int)
            · have HEL := Lib.hid (show cutEl T rows cols k l = ix (rowAt T.hi k) l by simp [cutEl, HQ1.out, hic])
              have HQ2 := Lib.hid hic; clear hic
              go_wp2_with fail
              refine (containsI_b false _ cols (l : Int) _ HQ2.out H2.out).mono ?_
              rintro e w' ⟨rfl, rfl⟩
              go_wp2
              go_round
              case rel => exact ⟨l + 1, by omega, by go_num, by rw [HS.out, HDv.out, HEL.out]; try exact congrArg (Value.int IntKind.i64) (by omega), by rw [HS.out, HDv.out, HEL.out]; omega⟩
              case measure => simp [intOf]; omega
            · have HEL := Lib.hid (show cutEl T rows cols k l = 0 by simp [cutEl, HQ1.out, hic])
              have HQ2 := Lib.hid hic; clear hic
              go_wp2_with fail
              refine (containsI_b true _ cols (l : Int) _ HQ2.out H2.out).mono ?_
              rintro e w' ⟨rfl, rfl⟩
              go_wp2
              go_round
              case rel => exact ⟨l + 1, by omega, by go_num, by rw [HS.out, HDv.out, HEL.out]; try exact congrArg (Value.int IntKind.i64) (by omega), by rw [HS.out, HDv.out, HEL.out]; omega⟩
              case measure => simp [intOf]; omega
          · have hll : l = T.cols.length := by omega
            have HN := Lib.hid (show cutD T rows cols (k + 1) 0 = cutD T rows cols k l by rw [cutD_next, hll]); clear hll
            go_wp2
            go_round
            case rel => exact ⟨k + 1, by omega, by go_num, by rw [HLA.out], by rw [HN.out], by rw [HLA.out]; omega, by rw [HN.out]; omega⟩
            case measure => simp [intOf]; omega
    · have hkn : k = T.rows.length := by omega
      have hLV : (S k fun i => if hasI rows (i : Int) = true then ix T.rows i else 0) = pickS T.rows rows := by rw [hkn]; exact (HRI.out.sum (fun i => ix T.rows i)).symm
      have HKN := Lib.hid hkn; clear hkn
      obtain ⟨LV, hLV2⟩ : ∃ P, pickS T.rows rows = P := ⟨_, rfl⟩
      rw [hLV, hLV2] at hbs
      rw [hLV, hLV2]
      clear hLV
      have HLV := Lib.hid hLV2; clear hLV2
      obtain ⟨Dv, hDv⟩ : ∃ P, cutD T rows cols k 0 = P := ⟨_, rfl⟩
      rw [hDv] at hb ⊢
      have HDv := Lib.hid hDv; clear hDv
      have hk8 : k ≤ 8 := by omega
      go_wp2
      go_loop [8, 76] (fun s i => ∃ k : Nat, k ≤ cols.length ∧ i = .int .i64 k ∧ s = .int .i64 (Dv + pickS T.cols (cols.take k)) ∧ (0 ≤ pickS T.cols (cols.take k) ∧ pickS T.cols (cols.take k) ≤ 100000 * k)) (fun _ i => cols.length - (intOf i).toNat)
      case atStart => exact ⟨0, Nat.zero_le _, rfl, by simp [pickS], by simp [pickS]⟩
      case round =>
        obtain ⟨k, hk, rfl, rfl, hb⟩ := hrel
        by_cases hlt : k < cols.length
        · obtain ⟨bl, ol, rfl, hcl⟩ := GCL.out k hlt
          obtain ⟨r, hr⟩ : ∃ r : Nat, ix cols k = (r : Int) := ⟨(ix cols k).toNat, by have := (HCI.out k hlt).1; omega⟩
          have hrn : r < T.cols.length := by have := (HCI.out k hlt).1; omega
          rw [hr] at hcl
          obtain ⟨br, or, rfl, hcr⟩ := GC.out r hrn
          have hv := HO.out.colv hrn
          have hst : pickS T.cols (cols.take (k + 1)) = pickS T.cols (cols.take k) + ix T.cols r := by rw [pickS_take hlt, hr, Int.toNat_natCast]
          have HST := Lib.hid hst; clear hst
          have HR' := Lib.hid hr; clear hr
          obtain ⟨P, hP⟩ : ∃ P, pickS T.cols (cols.take k) = P := ⟨_, rfl⟩
          rw [hP] at hb ⊢
          have HP := Lib.hid hP; clear hP
          go_wp2
          go_round
          case rel => exact ⟨k + 1, by omega, by go_num, by rw [HST.out, HP.out]; try exact congrArg (Value.int IntKind.i64) (by omega), by rw [HST.out, HP.out]; omega⟩
          case measure => simp [intOf]; omega
        · have hkk : cols.take k = cols := List.take_of_length_le (by omega)
          rw [hkk] at hb ⊢
          clear hkk
          obtain ⟨CV, hCV⟩ : ∃ P, pickS T.cols cols = P := ⟨_, rfl⟩
          rw [hCV] at hb ⊢
          have HCV := Lib.hid hCV; clear hCV
          go_wp2
          go_ret
          have : cutB T rows cols = decide (Dv + CV < LV) := by unfold cutB; rw [HCV.out, HLV.out, ← HKN.out, HDv.out, Int.add_comm]
          rw [this]
          exact ⟨rfl, u0⟩
end Go.Proofs.Ythdfiebacomilaa
