/- GreatestSwaps, the spec's walk. -/
import Derived.Test.YtkkoidoinbiikaaGreatI
namespace Go.Proofs.Ytkkoidoinbiikaa
open Go.RowKit

set_option maxRecDepth 100000 in
set_option maxHeartbeats 1600000 in
theorem specGreatestSwaps_c (v1 : Value) (s : List Vr) (v2 : Value) (l : List Pe) (v3 : Value) (vars : List Int) (w : World) (h1 : Vrs w v1 s) (h2 : Pes w v2 l) (h3 : Ints w v3 vars) (hw : WfV s) :
    Calls Try.prog 14 #[v1, v2, v3] w fun e w' => e = .returned (.tuple #[.int .i64 (gsV s l vars), .bool (gsB s l vars)]) ∧ Ext w w' := by
  have H1 := Lib.hid h1; clear h1
  have H2 := Lib.hid h2
  have H3 := Lib.hid h3; clear h3
  have HW := Lib.hid hw; clear hw
  obtain ⟨a2, c2, rfl, e1, e2, g2⟩ := h2
  have G2 := Lib.hid g2; clear g2
  cases hi : inB s l vars
  · have HB : Hid (gsV s l vars = 0 ∧ gsB s l vars = false) := Lib.hid (by simp [gsV, gsB, hi])
    rw [HB.out.1, HB.out.2]
    have HI := Lib.hid hi; clear hi
    go_enter Try.func14, Try.ntmps14
    go_wp2_with fail
    refine (swInput_b false _ _ _ s l vars _ HI.out H1.out HW.out H2.out H3.out).mono ?_
    rintro e w1 ⟨rfl, u1⟩
    go_wp2
    go_ret2
    exact ⟨rfl, u1⟩
  have HB : Hid (gsV s l vars = (gSum l (grps s l vars (keysS s l vars)) (grps s l vars (keysS s l vars)).length : Int) ∧ gsB s l vars = true) := Lib.hid (by simp [gsV, gsB, hi])
  rw [HB.out.1, HB.out.2]
  have HI := Lib.hid hi
  have HDP := Lib.hid (inB_true.1 hi).2
  have h40 := (inB_true.1 hi).2.1
  have HKO : Hid (∀ k, k < l.length → KeyOk s (peAt l k).vals vars) := Lib.hid (fun k hk => keyOk_of hi hk)
  clear hi
  have hkn := keysS_len s l vars
  have hgl : (grps s l vars (keysS s l vars)).length ≤ 40 := by simp [grps]; omega
  have HGM : Hid (∀ k, k < (grps s l vars (keysS s l vars)).length → (rowAt (grps s l vars (keysS s l vars)) k).length ≤ 40 ∧ ∀ t, t < (rowAt (grps s l vars (keysS s l vars)) k).length → ∃ i : Nat, ix (rowAt (grps s l vars (keysS s l vars)) k) t = (i : Int) ∧ i < l.length) := Lib.hid (fun k hk => by
    have hk' : k < (keysS s l vars).length := by simpa [grps] using hk
    have e : rowAt (grps s l vars (keysS s l vars)) k = grpTo s l vars (ix (keysS s l vars) k) l.length := by simp [rowAt, grps, ix, List.getD, hk']
    rw [e]
    exact ⟨Nat.le_trans (grpTo_len _ _ _ _ _) h40, fun t ht => grp_ix ht⟩)
  go_enter Try.func14, Try.ntmps14
  go_wp2_with fail
  refine (swInput_b true _ _ _ s l vars _ HI.out H1.out HW.out H2.out H3.out).mono ?_
  rintro e w1 ⟨rfl, u1⟩
  go_wp2_with fail
  refine (swGroups_c _ _ _ s l vars _ (H1.out.ext u1) (H2.out.ext u1) (H3.out.ext u1) h40 HKO.out).mono ?_
  rintro e w2 ⟨v', rvs, rfl, o2, u2⟩
  have og := o2.grid
  clear o2
  obtain ⟨GS, hGS⟩ : ∃ G, grps s l vars (keysS s l vars) = G := ⟨_, rfl⟩
  rw [hGS] at og HGM hgl
  have HGS := Lib.hid hGS; clear hGS
  obtain ⟨ag, cg, rfl, g1, g2, gg⟩ := og
  have GG := Lib.hid gg; clear gg
  have x2 := u1.trans u2
  go_wp2
  go_loopw [8, 27] (fun v i wr => ∃ k : Nat, k ≤ GS.length ∧ i = .int .i64 k ∧ v = .int .i64 (gSum l GS k : Int) ∧ gSum l GS k ≤ 40 * k ∧ Ext w2 wr) (fun _ i _ => GS.length - (intOf i).toNat)
  case atStart => exact ⟨0, Nat.zero_le _, rfl, rfl, Nat.le_refl _, Ext.refl _⟩
  case round =>
    obtain ⟨k, hk, rfl, rfl, hsb, hy⟩ := hrel
    obtain ⟨wo, rfl⟩ : ∃ wo : World, wo = wr := ⟨_, rfl⟩
    have hxy := x2.trans hy
    by_cases hlt : k < GS.length
    · obtain ⟨bk, ok, ar, cr, rfl, hc, r1, r2, r3⟩ := (GG.out.ext hy).at_ hlt
      have hm := HGM.out k hlt
      have HGT : Hid (gSum l GS (k + 1) = gSum l GS k + gSw l (rowAt GS k)) := Lib.hid rfl
      obtain ⟨G, hG⟩ : ∃ G, rowAt GS k = G := ⟨_, rfl⟩
      rw [hG] at hc r1 r3 hm HGT
      clear hG
      have R3 := Lib.hid r3; clear r3
      have HM := Lib.hid hm.2
      have hn40 := hm.1
      clear hm
      go_wp2
      go_loopw [11, 33] (fun m j wr => ∃ t : Nat, t ≤ G.length ∧ j = .int .i64 t ∧ m = .int .i64 (allMost l G G.length t : Int) ∧ Ext wo wr) (fun _ j _ => G.length - (intOf j).toNat)
      case atStart => exact ⟨0, Nat.zero_le _, rfl, rfl, Ext.refl _⟩
      case round =>
        obtain ⟨t, ht, rfl, rfl, hz⟩ := hrel
        obtain ⟨wi, rfl⟩ : ∃ wi : World, wi = wr := ⟨_, rfl⟩
        by_cases htl : t < G.length
        · obtain ⟨i, hii, hil⟩ := HM.out t htl
          obtain ⟨bg, og, rfl, hcg⟩ := R3.out t htl
          replace hcg := Ext.cell hz hcg
          rw [hii] at hcg
          have HII := Lib.hid hii; clear hii
          have HAM : Hid (allMost l G G.length (t + 1) = max (allMost l G G.length t) (arCnt l G (arAt l G t) G.length)) := Lib.hid rfl
          have HAA : Hid (arAt l G t = (peAt l i).area) := Lib.hid (by unfold arAt; rw [HII.out, Int.toNat_natCast])
          obtain ⟨m, hmm⟩ : ∃ c, allMost l G G.length t = c := ⟨_, rfl⟩
          rw [hmm] at HAM ⊢
          clear hmm
          go_wp2
          go_loopw [14, 39] (fun c q wr => ∃ u : Nat, u ≤ G.length ∧ q = .int .i64 u ∧ c = .int .i64 (arCnt l G (arAt l G t) u : Int) ∧ Ext wo wr) (fun _ q _ => G.length - (intOf q).toNat)
          case atStart => exact ⟨0, Nat.zero_le _, rfl, rfl, hz⟩
          case round =>
            obtain ⟨u, hu, rfl, rfl, hv⟩ := hrel
            obtain ⟨wj, rfl⟩ : ∃ wi : World, wi = wr := ⟨_, rfl⟩
            have hcu := arCnt_le l G (arAt l G t) u
            by_cases hul : u < G.length
            · obtain ⟨i2, hi2, hil2⟩ := HM.out u hul
              obtain ⟨bg', og', e', hcg2⟩ := R3.out u hul
              simp only [Option.some.injEq, Addr.mk.injEq, and_true] at e'
              obtain ⟨rfl, rfl⟩ := e'
              replace hcg2 := Ext.cell hv hcg2
              rw [hi2] at hcg2
              obtain ⟨b, o, ar', cr', rfl, hc0, _, _, _, _, _⟩ := (G2.out.ext (hxy.trans hv)).at_ hil
              obtain ⟨b', o', ar2', cr2', e', hd0, _, _, _, _, _⟩ := (G2.out.ext (hxy.trans hv)).at_ hil2
              simp only [Option.some.injEq, Addr.mk.injEq, and_true] at e'
              obtain ⟨rfl, rfl⟩ := e'
              have HA2 : Hid (arAt l G u = (peAt l i2).area) := Lib.hid (by unfold arAt; rw [hi2, Int.toNat_natCast])
              clear hi2
              obtain ⟨A, hA⟩ : ∃ a, (peAt l i).area = a := ⟨_, rfl⟩
              obtain ⟨A2, hA2⟩ : ∃ a, (peAt l i2).area = a := ⟨_, rfl⟩
              rw [hA] at hc0
              rw [hA2] at hd0 HA2
              have hAt : arAt l G t = A := by rw [HAA.out, hA]
              obtain ⟨c, hcc⟩ : ∃ c, arCnt l G (arAt l G t) u = c := ⟨_, rfl⟩
              have i0 : (0 : Int) ≤ (i : Int) := by omega
              have i1 : (i : Int) < (l.length : Int) := by omega
              have i2' : (0 : Int) ≤ (i2 : Int) := by omega
              have i3 : (i2 : Int) < (l.length : Int) := by omega
              by_cases he : A2 = A
              · have HCT : Hid (arCnt l G (arAt l G t) (u + 1) = c + 1) := Lib.hid (by rw [arCnt, if_pos (by rw [HA2.out, hAt, he]), hcc])
                have heq : (A2 == A) = true := by simp [he]
                rw [hcc] at hcu ⊢
                clear he hA hA2 hAt hcc
                go_wp2_with fail
                go_quiet (fail)
                go_wp2
                go_roundw
                case rel => exact ⟨u + 1, by omega, by go_num, by rw [HCT.out]; go_num, hv.drewN _⟩
                case measure => simp [intOf]; omega
              · have HCT : Hid (arCnt l G (arAt l G t) (u + 1) = c) := Lib.hid (by rw [arCnt, if_neg (by rw [HA2.out, hAt]; exact he), hcc])
                have heq : (A2 == A) = false := by simp [he]
                rw [hcc] at hcu ⊢
                clear he hA hA2 hAt hcc
                go_wp2_with fail
                go_quiet (fail)
                go_wp2
                go_roundw
                case rel => exact ⟨u + 1, by omega, by go_num, by rw [HCT.out], hv.drewN _⟩
                case measure => simp [intOf]; omega
            · have hun : u = G.length := by omega
              have HAX : Hid (imax (m : Int) (arCnt l G (arAt l G t) u : Int) = ((allMost l G G.length (t + 1) : Nat) : Int)) := Lib.hid (by rw [HAM.out, hun]; unfold imax; omega)
              clear hun
              go_wp2_with fail
              refine (l1Most_c (m : Int) (arCnt l G (arAt l G t) u : Int) _).mono ?_
              rw [HAX.out]
              rintro e w' ⟨rfl, rfl⟩
              go_wp2
              go_roundw
              case rel => exact ⟨t + 1, by omega, by go_num, rfl, hv⟩
              case measure => simp [intOf]; omega
        · have htn : t = G.length := by omega
          have hrm : allMost l G G.length t ≤ t := by rw [htn, ← runMost_eq]; exact runMost_le l G _
          have HSW : Hid (gSw l G = min (G.length / 2) (G.length - allMost l G G.length t)) := Lib.hid (by rw [gSw, htn, runMost_eq])
          obtain ⟨m, hmm⟩ : ∃ c, allMost l G G.length t = c := ⟨_, rfl⟩
          rw [hmm] at hrm HSW ⊢
          clear hmm
          obtain ⟨S, hS⟩ : ∃ S, gSum l GS k = S := ⟨_, rfl⟩
          rw [hS] at hsb HGT ⊢
          clear hS
          obtain ⟨n, hn⟩ : ∃ n, G.length = n := ⟨_, rfl⟩
          rw [hn] at HSW hn40 htn htl ⊢
          clear hn
          have hmn : m ≤ n := by omega
          obtain ⟨q, hq⟩ : ∃ q : Nat, q = n / 2 := ⟨_, rfl⟩
          have d1 : (n : Int).tdiv 2 = (q : Int) := by rw [Int.tdiv_eq_ediv_of_nonneg (by omega)]; omega
          obtain ⟨r, hr⟩ : ∃ r : Nat, r = n - m := ⟨_, rfl⟩
          have d2 : (n : Int) - (m : Int) = (r : Int) := by omega
          have hw0 : IntKind.i64.wrap (q : Int) = (q : Int) := IntWalk.i64_in _ (by omega)
          have hw1 : IntKind.i64.wrap (r : Int) = (r : Int) := IntWalk.i64_in _ (by omega)
          have HIM : Hid (imin (q : Int) (r : Int) = min (q : Int) (r : Int)) := Lib.hid (by unfold imin; omega)
          have hw2 : IntKind.i64.wrap ((S : Int) + min (q : Int) (r : Int)) = (S : Int) + min (q : Int) (r : Int) := IntWalk.i64_in _ (by omega)
          have HFI : Hid (((gSum l GS (k + 1) : Nat) : Int) = (S : Int) + min (q : Int) (r : Int) ∧ gSum l GS (k + 1) ≤ 40 * (k + 1)) := Lib.hid (by rw [HGT.out, HSW.out, ← hq, ← hr]; omega)
          clear hq hr hmn hrm
          clear htn
          go_wp2_with fail
          refine (l1Least_c (q : Int) (r : Int) _).mono ?_
          rw [HIM.out]
          rintro e w' ⟨rfl, rfl⟩
          go_wp2
          go_roundw
          case rel => exact ⟨k + 1, by omega, by go_num, by rw [HFI.out.1], HFI.out.2, hy.trans hz⟩
          case measure => simp [intOf]; omega
    · have hkl : k = GS.length := by omega
      subst hkl
      go_wp2
      go_ret2
      exact ⟨by rw [HGS.out]; rfl, hxy⟩
end Go.Proofs.Ytkkoidoinbiikaa
