/- GreatestSwaps, the program's walk. -/
import Derived.Test.YtkkoidoinbiikaaGreat
namespace Go.Proofs.Ytkkoidoinbiikaa
open Go.RowKit

theorem grp_ix {s : List Vr} {l : List Pe} {vars : List Int} {key : Int} {n t : Nat} (h : t < (grpTo s l vars key n).length) : ∃ i : Nat, ix (grpTo s l vars key n) t = (i : Int) ∧ i < n := by
  have hm := ix_mem h
  obtain ⟨i, hi, e⟩ := List.mem_map.1 hm
  exact ⟨i, e.symm, by have := (List.mem_filter.1 hi).1; simpa using this⟩

theorem runMost_le (l : List Pe) (G : List Int) : ∀ n, runMost l G n ≤ n
  | 0 => Nat.le_refl 0
  | n + 1 => by
    unfold runMost
    exact Nat.max_le.2 ⟨Nat.le_trans (runMost_le l G n) (Nat.le_succ _), arCnt_le l G _ _⟩
set_option maxRecDepth 100000 in
set_option maxHeartbeats 1600000 in
theorem implGreatestSwaps_c (v1 : Value) (s : List Vr) (v2 : Value) (l : List Pe) (v3 : Value) (vars : List Int) (w : World) (h1 : Vrs w v1 s) (h2 : Pes w v2 l) (h3 : Ints w v3 vars) (hw : WfV s) :
    Calls Try.prog 18 #[v1, v2, v3] w fun e w' => e = .returned (.tuple #[.int .i64 (gsV s l vars), .bool (gsB s l vars)]) ∧ Ext w w' := by
  have H1 := Lib.hid h1; clear h1
  have H2 := Lib.hid h2
  have H3 := Lib.hid h3; clear h3
  have HW := Lib.hid hw; clear hw
  obtain ⟨a2, c2, rfl, e1, e2, g2⟩ := h2
  have G2 := Lib.hid g2; clear g2
  cases hi : inB s l vars
  · have HB : Hid (gsV s l vars = 0 ∧ gsB s l vars = false) := Lib.hid (by simp [gsV, gsB, hi])
    rw [HB.out.1, HB.out.2]
    have HI := Lib.hid hi; clear hi
    go_enter Try.func18, Try.ntmps18
    go_wp2_with fail
    refine (areKeyed_b false _ _ _ s l vars _ HI.out H1.out HW.out H2.out H3.out).mono ?_
    rintro e w1 ⟨rfl, u1⟩
    go_wp2
    go_ret2
    exact ⟨rfl, u1⟩
  have HB : Hid (gsV s l vars = (gSum l (grps s l vars (keysS s l vars)) (grps s l vars (keysS s l vars)).length : Int) ∧ gsB s l vars = true) := Lib.hid (by simp [gsV, gsB, hi])
  rw [HB.out.1, HB.out.2]
  have HI := Lib.hid hi
  have HDP := Lib.hid (inB_true.1 hi).2
  have h40 := (inB_true.1 hi).2.1
  have HKO : Hid (∀ k, k < l.length → KeyOk s (peAt l k).vals vars) := Lib.hid (fun k hk => keyOk_of hi hk)
  clear hi
  have hkn := keysS_len s l vars
  have hgl : (grps s l vars (keysS s l vars)).length ≤ 40 := by simp [grps]; omega
  have HGM : Hid (∀ k, k < (grps s l vars (keysS s l vars)).length → (rowAt (grps s l vars (keysS s l vars)) k).length ≤ 40 ∧ ∀ t, t < (rowAt (grps s l vars (keysS s l vars)) k).length → ∃ i : Nat, ix (rowAt (grps s l vars (keysS s l vars)) k) t = (i : Int) ∧ i < l.length) := Lib.hid (fun k hk => by
    have hk' : k < (keysS s l vars).length := by simpa [grps] using hk
    have e : rowAt (grps s l vars (keysS s l vars)) k = grpTo s l vars (ix (keysS s l vars) k) l.length := by simp [rowAt, grps, ix, List.getD, hk']
    rw [e]
    exact ⟨Nat.le_trans (grpTo_len _ _ _ _ _) h40, fun t ht => grp_ix ht⟩)
  go_enter Try.func18, Try.ntmps18
  go_wp2_with fail
  refine (areKeyed_b true _ _ _ s l vars _ HI.out H1.out HW.out H2.out H3.out).mono ?_
  rintro e w1 ⟨rfl, u1⟩
  go_wp2_with fail
  refine (keyGroups_c _ _ _ s l vars _ (H1.out.ext u1) (H2.out.ext u1) (H3.out.ext u1) h40 HKO.out).mono ?_
  rintro e w2 ⟨v', rvs, rfl, o2, u2⟩
  have og := o2.grid
  clear o2
  obtain ⟨GS, hGS⟩ : ∃ G, grps s l vars (keysS s l vars) = G := ⟨_, rfl⟩
  rw [hGS] at og HGM hgl
  have HGS := Lib.hid hGS; clear hGS
  obtain ⟨ag, cg, rfl, g1, g2, gg⟩ := og
  have GG := Lib.hid gg; clear gg
  have x2 := u1.trans u2
  go_wp2
  go_loopw [8, 25] (fun v i wr => ∃ k : Nat, k ≤ GS.length ∧ i = .int .i64 k ∧ v = .int .i64 (gSum l GS k : Int) ∧ gSum l GS k ≤ 40 * k ∧ Ext w2 wr) (fun _ i _ => GS.length - (intOf i).toNat)
  case atStart => exact ⟨0, Nat.zero_le _, rfl, rfl, Nat.le_refl _, Ext.refl _⟩
  case round =>
    obtain ⟨k, hk, rfl, rfl, hsb, hy⟩ := hrel
    obtain ⟨wo, rfl⟩ : ∃ wo : World, wo = wr := ⟨_, rfl⟩
    have hxy := x2.trans hy
    by_cases hlt : k < GS.length
    · obtain ⟨bk, ok, ar, cr, rfl, hc, r1, r2, r3⟩ := (GG.out.ext hy).at_ hlt
      have hm := HGM.out k hlt
      have HGT : Hid (gSum l GS (k + 1) = gSum l GS k + gSw l (rowAt GS k)) := Lib.hid rfl
      obtain ⟨G, hG⟩ : ∃ G, rowAt GS k = G := ⟨_, rfl⟩
      rw [hG] at hc r1 r3 hm HGT
      clear hG
      have R3 := Lib.hid r3; clear r3
      have HM := Lib.hid hm.2
      have hn40 := hm.1
      clear hm
      have HC0 := Lib.hid (Cnts.new wo l G)
      go_wp2
      go_loopw [12, 31] (fun m j wr => ∃ t : Nat, t ≤ G.length ∧ j = .int .i64 t ∧ m = .int .i64 (runMost l G t : Int) ∧ Cnts wr wo.heap.size l G t ∧ Ext wo wr) (fun _ j _ => G.length - (intOf j).toNat)
      case atStart => exact ⟨0, Nat.zero_le _, rfl, rfl, HC0.out, (Ext.refl _).alloc _⟩
      case round =>
        clear HC0
        obtain ⟨t, ht, rfl, rfl, hct, hz⟩ := hrel
        obtain ⟨wi, rfl⟩ : ∃ wi : World, wi = wr := ⟨_, rfl⟩
        have HCT := Lib.hid hct; clear hct
        by_cases htl : t < G.length
        · obtain ⟨i, hii, hil⟩ := HM.out t htl
          obtain ⟨bg, og, rfl, hcg⟩ := R3.out t htl
          replace hcg := Ext.cell hz hcg
          obtain ⟨b, o, ar', cr', rfl, hc0, _, _, _, _, _⟩ := G2.out.at_ hil
          have hb := World.block_lt_of_cell? w _ hc0
          replace hc0 := Ext.cell (hxy.trans hz) hc0
          have har := (HDP.out.2 i hil).1
          obtain ⟨a, hae⟩ : ∃ a : Nat, (peAt l i).area = (a : Int) := ⟨(peAt l i).area.toNat, by omega⟩
          have haA : arAt l G t = (a : Int) := by unfold arAt; rw [hii, Int.toNat_natCast, hae]
          rw [hae] at hc0 har
          rw [hii] at hcg
          have ha30 : a < 30 := by omega
          have q0 := HCT.out.cell ha30
          have q1 := HCT.out.free a
          have hcl := arCnt_le l G (a : Int) t
          have HST := Lib.hid (HCT.out.step ha30 haA)
          have HRM : Hid (runMost l G (t + 1) = max (runMost l G t) (arCnt l G (a : Int) t + 1)) := Lib.hid (by
            rw [runMost, haA]
            have : arCnt l G (a : Int) (t + 1) = arCnt l G (a : Int) t + 1 := by rw [arCnt, if_pos haA]
            rw [this])
          clear haA hae hii
          obtain ⟨c, hcc⟩ : ∃ c, arCnt l G (a : Int) t = c := ⟨_, rfl⟩
          obtain ⟨m, hmm⟩ : ∃ c, runMost l G t = c := ⟨_, rfl⟩
          rw [hcc] at q0 HST HRM hcl
          rw [hmm] at HRM ⊢
          clear hcc hmm
          have s1 := hxy.size
          have nb : ¬ (b = wo.heap.size) := by have hb' : b < w.heap.size := hb; omega
          have nb2 : ¬ (wo.heap.size = b) := fun e => nb e.symm
          have i0 : (0 : Int) ≤ (i : Int) := by omega
          have i1 : (i : Int) < (l.length : Int) := by omega
          have a0 : (0 : Int) ≤ (a : Int) := by omega
          have a1 : (a : Int) < 30 := by omega
          have hw2 : IntKind.i64.wrap ((c : Int) + 1) = (c : Int) + 1 := IntWalk.i64_in _ (by omega)
          go_wp2
          go_roundw
          case rel => exact ⟨t + 1, by omega, by go_num, by rw [HRM.out]; go_num, HST.out, hz.setCell _ (by simp)⟩
          case measure => simp [intOf]; omega
        · have htn : t = G.length := by omega
          have hrm := runMost_le l G t
          have HSW : Hid (gSw l G = min (G.length / 2) (G.length - runMost l G t)) := Lib.hid (by rw [gSw, htn])
          obtain ⟨m, hmm⟩ : ∃ c, runMost l G t = c := ⟨_, rfl⟩
          rw [hmm] at hrm HSW ⊢
          clear hmm
          obtain ⟨S, hS⟩ : ∃ S, gSum l GS k = S := ⟨_, rfl⟩
          rw [hS] at hsb HGT ⊢
          clear hS
          obtain ⟨n, hn⟩ : ∃ n, G.length = n := ⟨_, rfl⟩
          rw [hn] at HSW hn40 htn htl ⊢
          clear hn
          have hmn : m ≤ n := by omega
          obtain ⟨q, hq⟩ : ∃ q : Nat, q = n / 2 := ⟨_, rfl⟩
          have d1 : (n : Int).tdiv 2 = (q : Int) := by rw [Int.tdiv_eq_ediv_of_nonneg (by omega)]; omega
          obtain ⟨r, hr⟩ : ∃ r : Nat, r = n - m := ⟨_, rfl⟩
          have d2 : (n : Int) - (m : Int) = (r : Int) := by omega
          have hw0 : IntKind.i64.wrap (q : Int) = (q : Int) := IntWalk.i64_in _ (by omega)
          have hw1 : IntKind.i64.wrap (r : Int) = (r : Int) := IntWalk.i64_in _ (by omega)
          have hw2 : IntKind.i64.wrap ((S : Int) + min (q : Int) (r : Int)) = (S : Int) + min (q : Int) (r : Int) := IntWalk.i64_in _ (by omega)
          have HFI : Hid (((gSum l GS (k + 1) : Nat) : Int) = (S : Int) + min (q : Int) (r : Int) ∧ gSum l GS (k + 1) ≤ 40 * (k + 1)) := Lib.hid (by rw [HGT.out, HSW.out, ← hq, ← hr]; omega)
          clear hq hr hmn hrm
          clear htn
          go_wp2
          go_roundw
          case rel => exact ⟨k + 1, by omega, by go_num, by rw [HFI.out.1], HFI.out.2, hy.trans hz⟩
          case measure => simp [intOf]; omega
    · have hkl : k = GS.length := by omega
      subst hkl
      go_wp2
      go_ret2
      exact ⟨by rw [HGS.out]; rfl, hxy⟩
end Go.Proofs.Ytkkoidoinbiikaa
