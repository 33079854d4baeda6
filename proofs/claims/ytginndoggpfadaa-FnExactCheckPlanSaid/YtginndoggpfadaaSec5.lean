/- Plans: what they add, whether they do what they say. -/
import Derived.Test.YtginndoggpfadaaPub
import Derived.Test.YtginndoggpfadaaSums
import Derived.BigRegion
import Derived.Test.YtginndoggpfadaaSec2
import Derived.Deep.RegionHeld3
import Derived.Test.YtginndoggpfadaaSep
namespace Go.Proofs.Ytginndoggpfadaa
open Go.RowKit

/-- q is of the shape of p, and small -/
structure Like (p q : List (List Int)) : Prop where
  n1 : 1 ≤ q.length
  n8 : q.length ≤ 8
  len : q.length = p.length
  row : ∀ k, k < p.length → (rowAt q k).length = (rowAt p k).length ∧ 1 ≤ (rowAt q k).length ∧ (rowAt q k).length ≤ 8
  eq : ∀ k, k < p.length → (rowAt p k).length = (rowAt p 0).length
theorem like_of {x p q : List (List Int)} (h1 : pubB x p = true) (h2 : pubB x q = true) : Like p q := by
  have a := pubB_shape h1
  have b := pubB_shape h2
  have g := gridB_true.1 a.1
  refine ⟨by omega, by omega, by omega, fun k hk => ?_, fun k hk => ?_⟩
  · have a1 := a.2.2.2.2 k (by omega)
    have b1 := b.2.2.2.2 k (by omega)
    omega
  · have a1 := a.2.2.2.2 k (by omega)
    have a0 := a.2.2.2.2 0 (by omega)
    have := (g.2.2.2.2 k (by omega)).1
    omega
open Classical in
noncomputable def aloneB (p q : List (List Int)) : Bool := decide (∃ i j, i < q.length ∧ j < (rowAt q i).length ∧ ix (rowAt q i) j = 1 ∧ ((rowAt p i).sum = 1 ∨ (colOf p j).sum = 1))
open Classical in
theorem aloneB_true {p q : List (List Int)} {i j : Nat} (hi : i < q.length) (hj : j < (rowAt q i).length) (h : ix (rowAt q i) j = 1) (h0 : (rowAt p i).sum = 1 ∨ (colOf p j).sum = 1) : aloneB p q = true := by
  unfold aloneB; exact decide_eq_true ⟨i, j, hi, hj, h, h0⟩
open Classical in
theorem aloneB_false {p q : List (List Int)} (h : ∀ i j, i < q.length → j < (rowAt q i).length → ix (rowAt q i) j = 1 → ¬ ((rowAt p i).sum = 1 ∨ (colOf p j).sum = 1)) : aloneB p q = false := by
  unfold aloneB; exact decide_eq_false (by rintro ⟨i, j, a, b, c, d⟩; exact h i j a b c d)
theorem pat_tame {x p : List (List Int)} (h : pubB x p = true) : Tame p := by
  have g := pubB_shape h
  simp only [pubB, patB, Bool.and_eq_true] at h
  have g2 := gridB_true.1 h.2.1
  refine ⟨by omega, fun i hi => ⟨by have := (g2.2.2.2.2 i hi).1; omega, fun j hj => ?_⟩⟩
  have := gridB_elem h.2.1 hi hj
  omega

set_option maxHeartbeats 3200000 in
theorem vAlone_c (v1 v2 : Value) (p q : List (List Int)) (w : World) (h1 : Grid w v1 p) (h2 : Grid w v2 q) (hk : Like p q) (ht : Tame p) :
    Calls Try.prog 80 #[v1, v2] w fun e w' => e = .returned (.bool (aloneB p q)) ∧ Ext w w' := by
  have H1 := Lib.hid h1
  obtain ⟨a1, c1, rfl, e1, e2, g1⟩ := h1
  have G1 := Lib.hid g1; clear g1
  obtain ⟨a2, c2, rfl, e3, e4, g2⟩ := h2
  have G2 := Lib.hid g2; clear g2
  have HT := Lib.hid ht; clear ht
  have HK := Lib.hid hk; clear hk
  go_enter Try.func80, Try.ntmps80
  go_wp2
  go_loopw [11] (fun i wr => ∃ k : Nat, k ≤ q.length ∧ i = .int .i64 k ∧ (∀ i j, i < k → j < (rowAt q i).length → ix (rowAt q i) j = 1 → ¬ ((rowAt p i).sum = 1 ∨ (colOf p j).sum = 1)) ∧ Ext w wr) (fun i _ => q.length - (intOf i).toNat)
  case atStart => exact ⟨0, Nat.zero_le _, rfl, fun i j hi => by omega, Ext.refl w⟩
  case round =>
    obtain ⟨k, hk, rfl, hj, hx⟩ := hrel
    have HJ := Lib.hid hj; clear hj
    by_cases hlt : k < q.length
    · obtain ⟨b, o, ar, cr, rfl, hc0, r1, r2, r3⟩ := G2.out.at_ hlt
      have hc := Ext.cell hx hc0
      have R3 := Lib.hid r3; clear r3
      have hltp : k < p.length := by have := HK.out.len; omega
      obtain ⟨b2, o2, ar2, cr2, rfl, hc20, s1, s2, s3⟩ := G1.out.at_ hltp
      have S3 := Lib.hid s3; clear s3
      go_wp2
      go_loopw [18] (fun i wr => ∃ l : Nat, l ≤ (rowAt q k).length ∧ i = .int .i64 l ∧ (∀ j, j < l → ix (rowAt q k) j = 1 → ¬ ((rowAt p k).sum = 1 ∨ (colOf p j).sum = 1)) ∧ Ext w wr) (fun i _ => (rowAt q k).length - (intOf i).toNat)
      case atStart => exact ⟨0, Nat.zero_le _, rfl, fun j hj => by omega, hx⟩
      case round =>
        obtain ⟨l, hl, rfl, hj2, hx2⟩ := hrel
        have HJ2 := Lib.hid hj2; clear hj2
        obtain ⟨wi, rfl⟩ : ∃ wi : World, wi = wr := ⟨_, rfl⟩
        by_cases hl2 : l < (rowAt q k).length
        · obtain ⟨b3, o3, rfl, hc30⟩ := R3.out l hl2
          have hc3 := Ext.cell hx2 hc30
          have hc2 := Ext.cell hx2 hc20
          have hcols : ∀ i, i < p.length → l < (rowAt p i).length := fun i hi => by
            have a0 := HK.out.eq i hi
            have a1 := HK.out.eq k hltp
            have a2 := HK.out.row k hltp
            omega
          have SC := Lib.hid (sumOk_of (HT.out.col hcols))
          have SR := Lib.hid (sumOk_of (HT.out.row hltp))
          have HC := Lib.hid hcols; clear hcols
          by_cases hone : ix (rowAt q k) l = 1
          · have hq1 : (ix (rowAt q k) l == 1) = true := by simp [hone]
            obtain ⟨RS, hRS⟩ : ∃ S, (rowAt p k).sum = S := ⟨_, rfl⟩
            obtain ⟨CS, hCS⟩ : ∃ S, (colOf p l).sum = S := ⟨_, rfl⟩
            by_cases hz : RS = 1
            · have hq0 : (RS == 1) = true := by simp [hz]
              have HB := Lib.hid (aloneB_true (p := p) (q := q) hlt hl2 hone (.inl (hRS.trans hz))); clear hz hone
              have HRS := Lib.hid hRS; clear hRS
              go_wp2_with fail
              refine (tSum_c _ (rowAt p k) _ (Ints.ext (⟨ar2, cr2, rfl, s1, s2, S3.out⟩ : Ints w _ _) hx2) SR.out).mono ?_
              rw [HRS.out]
              rintro e wi ⟨rfl, rfl⟩
              go_wp2
              go_ret
              rw [HB.out]
              exact ⟨rfl, hx2⟩
            · have hq0 : (RS == 1) = false := by simp [hz]
              have HZ := Lib.hid hz; clear hz
              have HRS := Lib.hid hRS; clear hRS
              have HCS := Lib.hid hCS; clear hCS
              have HO := Lib.hid hone; clear hone
              by_cases hz2 : CS = 1
              · have hq2 : (CS == 1) = true := by simp [hz2]
                have HB := Lib.hid (aloneB_true (p := p) (q := q) hlt hl2 HO.out (.inr (HCS.out.trans hz2))); clear hz2
                go_wp2_with fail
                refine (tSum_c _ (rowAt p k) _ (Ints.ext (⟨ar2, cr2, rfl, s1, s2, S3.out⟩ : Ints w _ _) hx2) SR.out).mono ?_
                rw [HRS.out]
                rintro e wi ⟨rfl, rfl⟩
                go_wp2_with fail
                refine (tColumn_c _ p l _ (H1.out.ext hx2) (by have := HK.out.len; have := HK.out.n8; omega) HC.out).mono ?_
                rintro e w4 ⟨v4, rfl, o4, u4⟩
                go_wp2_with fail
                refine (tSum_c _ (colOf p l) _ o4.ints SC.out).mono ?_
                rw [HCS.out]
                rintro e w4 ⟨rfl, rfl⟩
                go_wp2
                go_ret
                rw [HB.out]
                exact ⟨rfl, hx2.trans u4⟩
              · have hq2 : (CS == 1) = false := by simp [hz2]
                have HZ2 := Lib.hid hz2; clear hz2
                go_wp2_with fail
                refine (tSum_c _ (rowAt p k) _ (Ints.ext (⟨ar2, cr2, rfl, s1, s2, S3.out⟩ : Ints w _ _) hx2) SR.out).mono ?_
                rw [HRS.out]
                rintro e wi ⟨rfl, rfl⟩
                go_wp2_with fail
                refine (tColumn_c _ p l _ (H1.out.ext hx2) (by have := HK.out.len; have := HK.out.n8; omega) HC.out).mono ?_
                rintro e w4 ⟨v4, rfl, o4, u4⟩
                go_wp2_with fail
                refine (tSum_c _ (colOf p l) _ o4.ints SC.out).mono ?_
                rw [HCS.out]
                rintro e w4 ⟨rfl, rfl⟩
                clear o4
                go_wp2
                go_roundw
                case rel => exact ⟨l + 1, by omega, by go_num, fun j hj h1 => by
                  by_cases e : j = l
                  · subst e; rw [HRS.out, HCS.out]; rintro (h | h); exact HZ.out h; exact HZ2.out h
                  · exact HJ2.out j (by omega) h1, hx2.trans u4⟩
                case measure => simp [intOf]; omega
          · have hq1 : (ix (rowAt q k) l == 1) = false := by simp [hone]
            have HO := Lib.hid hone; clear hone
            go_wp2
            go_roundw
            case rel => exact ⟨l + 1, by omega, by go_num, fun j hj h1 => by
              by_cases e : j = l
              · subst e; exact absurd h1 HO.out
              · exact HJ2.out j (by omega) h1, hx2⟩
            case measure => simp [intOf]; omega
        · go_wp2
          go_roundw
          case rel => exact ⟨k + 1, by omega, by go_num, fun i j hi hj h1 => by
            by_cases e : i = k
            · subst e; exact HJ2.out j (by omega) h1
            · exact HJ.out i j (by omega) hj h1, hx2⟩
          case measure => simp [intOf]; omega
    · have HB := Lib.hid (aloneB_false (p := p) (q := q) (fun i j hi hj h1 => HJ.out i j (by omega) hj h1))
      go_wp2
      go_ret
      rw [HB.out]
      exact ⟨rfl, hx⟩
end Go.Proofs.Ytginndoggpfadaa
namespace Go.Proofs.Ytginndoggpfadaa
open Go.RowKit
open Fm

open Classical in
/-- all cells that S hides are protected under P -/
noncomputable def safeB (x P S : List (List Int)) (down up : Int) : Bool := decide (∀ i j, i < S.length → j < (rowAt S i).length → elOf S i j = 1 → protB x P i j down up = true)
theorem safeB_true {x P S : List (List Int)} {down up : Int} : safeB x P S down up = true ↔ ∀ i j, i < S.length → j < (rowAt S i).length → elOf S i j = 1 → protB x P i j down up = true := by simp [safeB]
theorem safeB_not {x P S : List (List Int)} {down up : Int} {i j : Nat} (hi : i < S.length) (hj : j < (rowAt S i).length) (h1 : elOf S i j = 1) (h0 : protB x P i j down up = false) : safeB x P S down up = false := by
  rw [← Bool.not_eq_true, safeB_true]; intro h; rw [h i j hi hj h1] at h0; exact absurd h0 (by simp)
/-- no cell is open -/
theorem safeB_open (x P S : List (List Int)) (down up : Int) : safeB x P S down up = decide ((cellsL (openF x P down up) S).length = 0) := by
  cases h : safeB x P S down up
  · symm
    rw [decide_eq_false_iff_not]
    intro h0
    rw [← Bool.not_eq_true, safeB_true] at h
    apply h
    intro i j hi hj h1
    cases hp : protB x P i j down up
    · obtain ⟨t, ht, _⟩ := cellsL_mem (f := openF x P down up) hi hj (by simp [openF, h1, hp])
      omega
    · rfl
  · symm
    rw [decide_eq_true_eq]
    apply Nat.eq_zero_of_not_pos
    intro hpos
    obtain ⟨i, j, hi, hj, hf, _⟩ := cellsL_row (f := openF x P down up) (p := S) hpos
    simp only [openF, Bool.and_eq_true, decide_eq_true_eq] at hf
    rw [safeB_true.1 h i j hi hj hf.1] at hf
    simp at hf

set_option maxRecDepth 100000 in
set_option maxHeartbeats 3200000 in
theorem vSafe_b (b : Bool) (x P S : List (List Int)) (v1 v2 v3 : Value) (down up : Int) (w : World) (hb : safeB x P S down up = b) (hin : inpB x P S = true) (hl : levB down up = true) (h1 : Grid w v1 x) (h2 : Grid w v2 P) (h3 : Grid w v3 S) :
    Calls Try.prog 57 #[v1, v2, v3, .int .i64 down, .int .i64 up] w fun e w' => e = .returned (.bool b) ∧ Ext w w' := by
  subst hb
  have H1 := Lib.hid h1
  have H2 := Lib.hid h2
  have H3 := Lib.hid h3
  obtain ⟨ax, cx, rfl, x1, x2, x3⟩ := h1
  clear x3
  obtain ⟨ap, cp, rfl, p1, p2, p3⟩ := h2
  clear p3
  obtain ⟨as_, cs, rfl, s1, s2, s3⟩ := h3
  have G := Lib.hid s3; clear s3
  obtain ⟨hp, hs, hc⟩ := inpB_true hin
  have hle : (0 ≤ down ∧ down ≤ 1000) ∧ 0 ≤ up ∧ up ≤ 1000 := by simpa only [levB, Bool.and_eq_true, decide_eq_true_eq] using hl
  obtain ⟨⟨l1, l2⟩, l3, l4⟩ := hle
  have hd := atk_dims hp
  have HLK := Lib.hid (like_of hp hs)
  have HRP := Lib.hid (pat_rc hp)
  have HRS := Lib.hid (pat_rc hs)
  have HIN := Lib.hid hin; clear hin
  have HP := Lib.hid hp; clear hp hs hc
  have HLV := Lib.hid hl; clear hl
  obtain ⟨n, hn⟩ : ∃ n, x.length = n := ⟨_, rfl⟩
  obtain ⟨m, hm⟩ : ∃ m, (rowAt x 0).length = m := ⟨_, rfl⟩
  rw [hn] at HRP HRS hd x1 H1
  rw [hm] at HRP HRS hd
  have hpl := HRP.out.len
  have hsl := HRS.out.len
  rw [hpl] at p1 H2
  rw [hsl] at s1 H3
  rw [hn, hpl, hsl]
  have HPL := Lib.hid hpl; clear hpl
  have HSL := Lib.hid hsl; clear hsl
  have HN := Lib.hid hn; clear hn
  have HM := Lib.hid hm; clear hm
  obtain ⟨d1, d2, d3, d4⟩ := hd
  have HTM : Hid (Tame P) := Lib.hid (pat_tame HP.out)
  by_cases hA : 0 < down + up ∧ aloneB P S = true
  · have HA := Lib.hid hA.2
    have hpos := hA.1
    have HSO := Lib.hid (safeB_open x P S down up)
    obtain ⟨F, hF⟩ : ∃ F, cellsL (openF x P down up) S = F := ⟨_, rfl⟩
    rw [hF] at HSO
    rw [HSO.out]
    obtain ⟨N, hN⟩ : ∃ N, F.length = N := ⟨_, rfl⟩
    have HF := Lib.hid hF; clear hF
    have HNN := Lib.hid hN; clear hN
    go_enter Try.func57, Try.ntmps57
    go_wp2_with fail
    refine (vAlone_c _ _ P S _ H2.out H3.out HLK.out HTM.out).mono ?_
    rw [HA.out]
    rintro e wS ⟨rfl, uS⟩
    go_wp2_with fail
    refine (vOpen_c x P S _ _ _ down up _ HIN.out HLV.out (H1.out.ext uS) (H2.out.ext uS) (H3.out.ext uS)).mono ?_
    rw [HF.out]
    rintro e w3 ⟨x3, r3, rfl, o3, u3⟩
    obtain ⟨e3, g3, rfl, _, _, qq⟩ := o3
    clear qq
    rw [HNN.out]
    go_wp2
    go_ret
    exact ⟨by rw [HNN.out]; by_cases h : N = 0 <;> simp [h], uS.trans u3⟩
  by_cases hpos : 0 < down + up
  · have ha : aloneB P S = false := by cases h : aloneB P S; rfl; exact absurd ⟨hpos, h⟩ hA
    have HA := Lib.hid ha; clear ha hA
    go_enter Try.func57, Try.ntmps57
    go_wp2_with fail
    refine (vAlone_c _ _ P S _ H2.out H3.out HLK.out HTM.out).mono ?_
    rw [HA.out]
    rintro e wS ⟨rfl, uS⟩
    go_wp2
    go_loopw [34] (fun i wr => ∃ k : Nat, k ≤ n ∧ i = .int .i64 k ∧ (∀ a c, a < k → c < m → elOf S a c = 1 → protB x P a c down up = true) ∧ Ext w wr) (fun i _ => n - (intOf i).toNat)
    case atStart => exact ⟨0, Nat.zero_le _, rfl, (fun a c h => by omega), uS⟩
    case round =>
      obtain ⟨k, hk, rfl, hj, hx⟩ := hrel
      obtain ⟨wo, rfl⟩ : ∃ wo : World, wo = wr := ⟨_, rfl⟩
      have HJ := Lib.hid hj; clear hj
      by_cases hlt : k < n
      · obtain ⟨b, o, ar, cr, rfl, hc0, r1, r2, r3⟩ := G.out.at_ (k := k) (by rw [HSL.out]; exact hlt)
        have hc := Ext.cell hx hc0
        rw [HRS.out.row k hlt] at hc r1
        have R3 := Lib.hid r3; clear r3 hc0
        go_wp2
        go_loopw [41] (fun i wr => ∃ l : Nat, l ≤ m ∧ i = .int .i64 l ∧ (∀ c, c < l → elOf S k c = 1 → protB x P k c down up = true) ∧ Ext w wr) (fun i _ => m - (intOf i).toNat)
        case atStart => exact ⟨0, Nat.zero_le _, rfl, (fun c h => by omega), hx⟩
        case round =>
          clear hc hx
          obtain ⟨l, hl', rfl, hj2, hx⟩ := hrel
          obtain ⟨wi, rfl⟩ : ∃ wi : World, wi = wr := ⟨_, rfl⟩
          have HJ2 := Lib.hid hj2; clear hj2
          by_cases hl2 : l < m
          · obtain ⟨b5, o5, rfl, hx5⟩ := R3.out l (by rw [HRS.out.row k hlt]; exact hl2)
            have e5 := Ext.cell hx hx5
            have q5 : ix (rowAt S k) l = elOf S k l := rfl
            rw [q5] at e5
            clear q5 hx5
            by_cases hone : elOf S k l = 1
            · have HP1 := Lib.hid (inp_one HIN.out (i := k) (j := l) (by rw [HN.out]; exact hlt) (by rw [HM.out]; exact hl2) hone)
              cases hpr : protB x P k l down up
              · have HB := Lib.hid (safeB_not (x := x) (P := P) (S := S) (i := k) (j := l) (by rw [HSL.out]; exact hlt) (by rw [HRS.out.row k hlt]; exact hl2) hone hpr)
                have HPR := Lib.hid hpr; clear hpr
                go_wp2_with fail
                refine (vProtected_b false x P ax ap cx cp n m k l down up _ HN.out HM.out HP.out (H1.out.ext hx) (H2.out.ext hx) hlt hl2 HP1.out HLV.out HPR.out).mono ?_
                rintro e w3 ⟨rfl, u3⟩
                go_wp2
                go_ret
                exact ⟨ret_bool HB.out.symm, hx.trans u3⟩
              · have HPR := Lib.hid hpr; clear hpr
                go_wp2_with fail
                refine (vProtected_b true x P ax ap cx cp n m k l down up _ HN.out HM.out HP.out (H1.out.ext hx) (H2.out.ext hx) hlt hl2 HP1.out HLV.out HPR.out).mono ?_
                rintro e w3 ⟨rfl, u3⟩
                have HZ : Hid (∀ c, c < l + 1 → elOf S k c = 1 → protB x P k c down up = true) := Lib.hid (fun c hc h1 => by
                  by_cases e : c = l
                  · subst e; exact HPR.out
                  · exact HJ2.out c (by omega) h1)
                go_wp2
                go_roundw
                case rel => exact ⟨l + 1, by omega, by go_num, HZ.out, hx.trans u3⟩
                case measure => simp [intOf]; omega
            · have HZ : Hid (∀ c, c < l + 1 → elOf S k c = 1 → protB x P k c down up = true) := Lib.hid (fun c hc h1 => by
                by_cases e : c = l
                · subst e; exact absurd h1 hone
                · exact HJ2.out c (by omega) h1)
              go_wp2
              go_roundw
              case rel => exact ⟨l + 1, by omega, by go_num, HZ.out, hx⟩
              case measure => simp [intOf]; omega
          · have HZ : Hid (∀ a c, a < k + 1 → c < m → elOf S a c = 1 → protB x P a c down up = true) := Lib.hid (fun a c ha hc h1 => by
              by_cases e : a = k
              · subst e; exact HJ2.out c (by omega) h1
              · exact HJ.out a c (by omega) hc h1)
            go_wp2
            go_roundw
            case rel => exact ⟨k + 1, by omega, by go_num, HZ.out, hx⟩
            case measure => simp [intOf]; omega
      · have HB : Hid (safeB x P S down up = true) := Lib.hid (safeB_true.2 (fun i j hi hj h1 => by
          rw [HSL.out] at hi
          rw [HRS.out.row i hi] at hj
          exact HJ.out i j (by omega) hj h1))
        go_wp2
        go_ret
        exact ⟨ret_bool HB.out.symm, hx⟩
  · clear hA
    have uS := Ext.refl w
    go_enter Try.func57, Try.ntmps57
    go_wp2
    go_loopw [34] (fun i wr => ∃ k : Nat, k ≤ n ∧ i = .int .i64 k ∧ (∀ a c, a < k → c < m → elOf S a c = 1 → protB x P a c down up = true) ∧ Ext w wr) (fun i _ => n - (intOf i).toNat)
    case atStart => exact ⟨0, Nat.zero_le _, rfl, (fun a c h => by omega), uS⟩
    case round =>
      obtain ⟨k, hk, rfl, hj, hx⟩ := hrel
      obtain ⟨wo, rfl⟩ : ∃ wo : World, wo = wr := ⟨_, rfl⟩
      have HJ := Lib.hid hj; clear hj
      by_cases hlt : k < n
      · obtain ⟨b, o, ar, cr, rfl, hc0, r1, r2, r3⟩ := G.out.at_ (k := k) (by rw [HSL.out]; exact hlt)
        have hc := Ext.cell hx hc0
        rw [HRS.out.row k hlt] at hc r1
        have R3 := Lib.hid r3; clear r3 hc0
        go_wp2
        go_loopw [41] (fun i wr => ∃ l : Nat, l ≤ m ∧ i = .int .i64 l ∧ (∀ c, c < l → elOf S k c = 1 → protB x P k c down up = true) ∧ Ext w wr) (fun i _ => m - (intOf i).toNat)
        case atStart => exact ⟨0, Nat.zero_le _, rfl, (fun c h => by omega), hx⟩
        case round =>
          clear hc hx
          obtain ⟨l, hl', rfl, hj2, hx⟩ := hrel
          obtain ⟨wi, rfl⟩ : ∃ wi : World, wi = wr := ⟨_, rfl⟩
          have HJ2 := Lib.hid hj2; clear hj2
          by_cases hl2 : l < m
          · obtain ⟨b5, o5, rfl, hx5⟩ := R3.out l (by rw [HRS.out.row k hlt]; exact hl2)
            have e5 := Ext.cell hx hx5
            have q5 : ix (rowAt S k) l = elOf S k l := rfl
            rw [q5] at e5
            clear q5 hx5
            by_cases hone : elOf S k l = 1
            · have HP1 := Lib.hid (inp_one HIN.out (i := k) (j := l) (by rw [HN.out]; exact hlt) (by rw [HM.out]; exact hl2) hone)
              cases hpr : protB x P k l down up
              · have HB := Lib.hid (safeB_not (x := x) (P := P) (S := S) (i := k) (j := l) (by rw [HSL.out]; exact hlt) (by rw [HRS.out.row k hlt]; exact hl2) hone hpr)
                have HPR := Lib.hid hpr; clear hpr
                go_wp2_with fail
                refine (vProtected_b false x P ax ap cx cp n m k l down up _ HN.out HM.out HP.out (H1.out.ext hx) (H2.out.ext hx) hlt hl2 HP1.out HLV.out HPR.out).mono ?_
                rintro e w3 ⟨rfl, u3⟩
                go_wp2
                go_ret
                exact ⟨ret_bool HB.out.symm, hx.trans u3⟩
              · have HPR := Lib.hid hpr; clear hpr
                go_wp2_with fail
                refine (vProtected_b true x P ax ap cx cp n m k l down up _ HN.out HM.out HP.out (H1.out.ext hx) (H2.out.ext hx) hlt hl2 HP1.out HLV.out HPR.out).mono ?_
                rintro e w3 ⟨rfl, u3⟩
                have HZ : Hid (∀ c, c < l + 1 → elOf S k c = 1 → protB x P k c down up = true) := Lib.hid (fun c hc h1 => by
                  by_cases e : c = l
                  · subst e; exact HPR.out
                  · exact HJ2.out c (by omega) h1)
                go_wp2
                go_roundw
                case rel => exact ⟨l + 1, by omega, by go_num, HZ.out, hx.trans u3⟩
                case measure => simp [intOf]; omega
            · have HZ : Hid (∀ c, c < l + 1 → elOf S k c = 1 → protB x P k c down up = true) := Lib.hid (fun c hc h1 => by
                by_cases e : c = l
                · subst e; exact absurd h1 hone
                · exact HJ2.out c (by omega) h1)
              go_wp2
              go_roundw
              case rel => exact ⟨l + 1, by omega, by go_num, HZ.out, hx⟩
              case measure => simp [intOf]; omega
          · have HZ : Hid (∀ a c, a < k + 1 → c < m → elOf S a c = 1 → protB x P a c down up = true) := Lib.hid (fun a c ha hc h1 => by
              by_cases e : a = k
              · subst e; exact HJ2.out c (by omega) h1
              · exact HJ.out a c (by omega) hc h1)
            go_wp2
            go_roundw
            case rel => exact ⟨k + 1, by omega, by go_num, HZ.out, hx⟩
            case measure => simp [intOf]; omega
      · have HB : Hid (safeB x P S down up = true) := Lib.hid (safeB_true.2 (fun i j hi hj h1 => by
          rw [HSL.out] at hi
          rw [HRS.out.row i hi] at hj
          exact HJ.out i j (by omega) hj h1))
        go_wp2
        go_ret
        exact ⟨ret_bool HB.out.symm, hx⟩
set_option maxRecDepth 100000 in
set_option maxHeartbeats 3200000 in
theorem protects_b (b : Bool) (x P S : List (List Int)) (v1 v2 v3 : Value) (down up : Int) (w : World) (hb : safeB x P S down up = b) (hin : inpB x P S = true) (hl : levB down up = true) (h1 : Grid w v1 x) (h2 : Grid w v2 P) (h3 : Grid w v3 S) :
    Calls Try.prog 59 #[v1, v2, v3, .int .i64 down, .int .i64 up] w fun e w' => e = .returned (.bool b) ∧ Ext w w' := by
  subst hb
  have H1 := Lib.hid h1
  have H2 := Lib.hid h2; clear h2
  have H3 := Lib.hid h3; clear h3
  obtain ⟨ax, cx, rfl, x1, x2, x3⟩ := h1
  clear x3
  obtain ⟨hp, hs, hc⟩ := inpB_true hin
  have hd := atk_dims hp
  have HRS := Lib.hid (pat_rc hs)
  have HIN := Lib.hid hin; clear hin
  have HP := Lib.hid hp; clear hp hs hc
  have HLV := Lib.hid hl; clear hl
  obtain ⟨n, hn⟩ : ∃ n, x.length = n := ⟨_, rfl⟩
  obtain ⟨m, hm⟩ : ∃ m, (rowAt x 0).length = m := ⟨_, rfl⟩
  rw [hn] at HRS hd x1 H1
  rw [hm] at HRS hd
  rw [hn]
  have HN := Lib.hid hn; clear hn
  have HM := Lib.hid hm; clear hm
  obtain ⟨d1, d2, d3, d4⟩ := hd
  have hr8 : ∀ i, i < S.length → (rowAt S i).length ≤ 8 := fun i hi => by rw [HRS.out.row i (by rw [← HRS.out.len]; exact hi)]; exact d4
  have hs8 : S.length ≤ 8 := by rw [HRS.out.len]; exact d2
  have hl8 := cellsL_len (f := oneF) (p := S) (m := 8) hr8
  obtain ⟨L, hL⟩ : ∃ L, cellsL oneF S = L := ⟨_, rfl⟩
  obtain ⟨N, hN⟩ : ∃ N, L.length = N := ⟨_, rfl⟩
  rw [hL, hN] at hl8
  have hN64 : N ≤ 64 := by omega
  have HL := Lib.hid hL; clear hL
  have HNN := Lib.hid hN; clear hN hl8
  go_enter Try.func59, Try.ntmps59
  go_wp2_with fail
  refine (attackNetwork_c _ x _ P _ H1.out H2.out HP.out).mono ?_
  rintro e w2 ⟨v2', rfl, ot, u2⟩
  have hr := ot.read
  clear ot
  obtain ⟨a0, c0, a1, c1, a2, c2, a3, c3, rfl⟩ := atk_form HP.out hr
  rw [HN.out, HM.out] at hr ⊢
  have HR := Lib.hid hr; clear hr
  have uA := (Ext.refl w2).alloc (.cells #[.slice a0 n c0, .slice a1 m c1, .slice a2 n c2, .slice a3 n c3] 58)
  have b0 := Box.new w2 58 #[.slice a0 n c0, .slice a1 m c1, .slice a2 n c2, .slice a3 n c3] rfl
  have uX := u2.trans uA
  go_wp2_with fail
  refine (positions_c _ S _ (H3.out.ext uX) hs8 hr8).mono ?_
  rw [HL.out]
  rintro e w4 ⟨v', rvs, rfl, og, u4⟩
  obtain ⟨aq, cq, rfl, l1, l2, og⟩ := og
  have OG := Lib.hid og; clear og
  have b4 := b0.ext u4
  have v4 := uX.trans u4
  have HRT := Lib.hid (HR.out.ext (uA.trans u4))
  have hz0 := uX.size
  have hz4 := u4.size
  rw [HNN.out] at l1 ⊢
  clear hs8 hr8 u2 uA u4
  go_wp2
  go_loopw [20] (fun i wr => ∃ t : Nat, t ≤ N ∧ i = .int .i64 t ∧ (∀ s a c, s < t → rowAt L s = pairI a c → protB x P a c down up = true) ∧ Ext w4 wr) (fun i _ => N - (intOf i).toNat)
  case atStart => exact ⟨0, Nat.zero_le _, rfl, (fun s a c h => by omega), Ext.refl _⟩
  case round =>
    obtain ⟨t, ht, rfl, hj, hx⟩ := hrel
    obtain ⟨wo, rfl⟩ : ∃ wo : World, wo = wr := ⟨_, rfl⟩
    have HJ := Lib.hid hj; clear hj
    by_cases hlt : t < N
    · obtain ⟨i, j, hi, hjj, hf, er⟩ := cellsL_row (f := oneF) (p := S) (t := t) (by rw [HL.out, HNN.out]; exact hlt)
      rw [HL.out] at er
      have hi' : i < n := by rw [← HRS.out.len]; exact hi
      have hj' : j < m := by rw [← HRS.out.row i hi']; exact hjj
      have htL : t < L.length := by rw [HNN.out]; exact hlt
      obtain ⟨bq, oq, rfl, _, _, _, hcq, _⟩ := (OG.out.ext hx).at_ (k := t) htL
      have hrow := (OG.out.ext hx).row t htL
      have HER := Lib.hid er
      have hone : elOf S i j = 1 := by simpa [oneF] using hf
      have HON := Lib.hid (And.intro hi (And.intro hjj hone)); clear hone
      rw [er] at hrow
      obtain ⟨ar, cr, erv, k1, k2, oa⟩ := hrow
      have k3 : (pairI i j).length = 2 := rfl
      rw [k3] at erv k1
      rw [erv] at hcq
      obtain ⟨b5, o5, rfl, _, _, _, hx5, _⟩ := oa.at_ (k := 0) (by rw [k3]; omega)
      obtain ⟨b5', o5', e6, _, _, _, hx6, _⟩ := oa.at_ (k := 1) (by rw [k3]; omega)
      simp only [Option.some.injEq, Addr.mk.injEq, and_true] at e6
      obtain ⟨rfl, rfl⟩ := e6
      have q5 : ix (pairI i j) 0 = (i : Int) := rfl
      have q6 : ix (pairI i j) 1 = (j : Int) := rfl
      rw [q5, Nat.add_zero] at hx5
      rw [q6] at hx6
      clear q5 q6 k3 oa er htL hf hi hjj
      have ERV := Lib.hid erv; clear erv
      have bo := b4.ext hx
      have y0 : wo.cell? ⟨w2.heap.size, 0, none⟩ = some (.slice a0 n c0) := bo.cell 0 (by simp)
      have y1 : wo.cell? ⟨w2.heap.size, 1, none⟩ = some (.slice a1 m c1) := bo.cell 1 (by simp)
      have y2 : wo.cell? ⟨w2.heap.size, 2, none⟩ = some (.slice a2 n c2) := bo.cell 2 (by simp)
      have y3 : wo.cell? ⟨w2.heap.size, 3, none⟩ = some (.slice a3 n c3) := bo.cell 3 (by simp)
      clear bo
      have hxw := v4.trans hx
      have HT : Hid (TrR wo.drew (.agg #[.slice a0 n c0, .slice a1 m c1, .slice a2 n c2, .slice a3 n c3]) (atkT x P)) := Lib.hid (HRT.out.ext hx.drew)
      have HXX : Hid (Grid wo.drew (.slice ax n cx) x) := Lib.hid (H1.out.ext hxw.drew)
      obtain ⟨b, hpr⟩ : ∃ b, protB x P i j down up = b := ⟨_, rfl⟩
      have HPR := Lib.hid hpr; clear hpr
      go_wp2_with fail
      go_region_held3 (fun x => x.cell? ⟨w2.heap.size, 0, none⟩ = some (.slice a0 n c0) ∧ x.cell? ⟨w2.heap.size, 1, none⟩ = some (.slice a1 m c1) ∧ x.cell? ⟨w2.heap.size, 2, none⟩ = some (.slice a2 n c2) ∧ x.cell? ⟨w2.heap.size, 3, none⟩ = some (.slice a3 n c3) ∧ x.cell? ⟨b5, o5, none⟩ = some (.int .i64 i) ∧ x.cell? ⟨b5, o5 + 1, none⟩ = some (.int .i64 j))
        (first | exact ⟨E5.cell y0, E5.cell y1, E5.cell y2, E5.cell y3, E5.cell hx5, E5.cell hx6⟩ | exact ⟨y0, y1, y2, y3, hx5, hx6⟩ | go_keep)
        ((go_at_call 40; refine (isProtected_b b x P a0 a1 a2 a3 ax c0 c1 c2 c3 cx n m i j down up _ HN.out HM.out HP.out HT.out HXX.out hi' hj' HLV.out HPR.out).mono ?_; rintro e w5 ⟨rfl, u5⟩; have E5 := (Ext.refl wo).drew.trans u5))
      have hx5' := hx.trans E5
      clear hx5 hx6 y0 y1 y2 y3 hcq
      cases b
      · have HB := Lib.hid (safeB_not HON.out.1 HON.out.2.1 HON.out.2.2 HPR.out)
        go_wp2
        go_ret
        exact ⟨ret_bool HB.out.symm, v4.trans hx5'⟩
      · have HZ : Hid (∀ s a c, s < t + 1 → rowAt L s = pairI a c → protB x P a c down up = true) := Lib.hid (fun s a c hs he => by
          by_cases e : s = t
          · subst e
            rw [HER.out] at he
            obtain ⟨rfl, rfl⟩ := pairI_inj he
            exact HPR.out
          · exact HJ.out s a c (by omega) he)
        go_wp2
        go_roundw
        case rel => exact ⟨t + 1, by omega, by go_num, HZ.out, hx5'⟩
        case measure => simp [intOf]; omega
    · have HB : Hid (safeB x P S down up = true) := Lib.hid (safeB_true.2 (fun i j hi hj h1 => by
        obtain ⟨t', ht', e⟩ := cellsL_mem (f := oneF) hi hj (by simp [oneF, h1])
        rw [HL.out] at ht' e
        rw [HNN.out] at ht'
        exact HJ.out t' i j (by omega) e))
      go_wp2
      go_ret
      exact ⟨ret_bool HB.out.symm, v4.trans hx⟩
end Go.Proofs.Ytginndoggpfadaa
namespace Go.Proofs.Ytginndoggpfadaa
open Go.RowKit
open Fm

/-- hidden by S and not by P -/
def addF (P : List (List Int)) (i j : Nat) (v : Int) : Bool := decide (v = 1) && decide (elOf P i j = 0)
def addQ (P : List (List Int)) (r : List Int) : Bool := decide (elOf P (ix r 0).toNat (ix r 1).toNat = 0)
def valR (x : List (List Int)) (r : List Int) : Int := elOf x (ix r 0).toNat (ix r 1).toNat
def sumR (x : List (List Int)) (L : List (List Int)) : Int := (L.map (valR x)).sum
theorem addQ_pair (P : List (List Int)) (i j : Nat) : addQ P (pairI i j) = decide (elOf P i j = 0) := by
  have e0 : ix (pairI i j) 0 = (i : Int) := rfl
  have e1 : ix (pairI i j) 1 = (j : Int) := rfl
  simp [addQ, e0, e1]
theorem valR_pair (x : List (List Int)) (i j : Nat) : valR x (pairI i j) = elOf x i j := by
  have e0 : ix (pairI i j) 0 = (i : Int) := rfl
  have e1 : ix (pairI i j) 1 = (j : Int) := rfl
  simp [valR, e0, e1]
theorem add_filter (P S : List (List Int)) : (cellsL oneF S).filter (addQ P) = cellsL (addF P) S := by
  rw [cellsL_filter]
  simp only [addQ_pair]; rfl
theorem sumR_snoc (x L : List (List Int)) (i j : Nat) : sumR x (L ++ [pairI i j]) = sumR x L + elOf x i j := by
  simp [sumR, valR_pair]
/-- the sum of few small values is small -/
theorem sumR_bound {x L : List (List Int)} {n m : Nat} (hx : ∀ i j, i < n → j < m → 0 ≤ elOf x i j ∧ elOf x i j ≤ 1000) (hL : ∀ r ∈ L, ∃ i j, i < n ∧ j < m ∧ r = pairI i j) : 0 ≤ sumR x L ∧ sumR x L ≤ L.length * 1000 := by
  induction L with
  | nil => simp [sumR]
  | cons r rs ih =>
    obtain ⟨i, j, hi, hj, rfl⟩ := hL r (by simp)
    have h1 := ih (fun q hq => hL q (by simp [hq]))
    have h2 := hx i j hi hj
    have e : sumR x (pairI i j :: rs) = elOf x i j + sumR x rs := by simp [sumR, valR_pair]
    rw [e]
    simp only [List.length_cons]
    omega
/-- each row of the list under way is the place of a cell -/
theorem cellsTo_row {f : Nat → Nat → Int → Bool} {p : List (List Int)} {k l n m : Nat} (hk : k ≤ n) (hk2 : k < n ∨ l = 0) (hl : l ≤ m) (hr : ∀ i, i < n → (rowAt p i).length = m) : ∀ r ∈ cellsTo f p k l, ∃ i j, i < n ∧ j < m ∧ r = pairI i j := by
  intro r h
  simp only [cellsTo, rowC, List.mem_append, List.mem_flatMap, List.mem_map, List.mem_filter, List.mem_range] at h
  rcases h with ⟨i, hi, j, ⟨hj, _⟩, rfl⟩ | ⟨j, ⟨hj, _⟩, rfl⟩
  · exact ⟨i, j, by omega, by rw [← hr i (by omega)]; exact hj, rfl⟩
  · exact ⟨k, j, by omega, by omega, rfl⟩
end Go.Proofs.Ytginndoggpfadaa
namespace Go.Proofs.Ytginndoggpfadaa
open Go.RowKit
open Fm

set_option maxRecDepth 100000 in
set_option maxHeartbeats 3200000 in
theorem vPlan_c (x P S : List (List Int)) (v1 v2 v3 : Value) (w : World) (hs : pubB x S = true) (hpp : pubB x P = true) (h1 : Grid w v1 x) (h2 : Grid w v2 P) (h3 : Grid w v3 S) :
    Calls Try.prog 58 #[v1, v2, v3] w fun e w' => ∃ (a : Option Addr) (c : Nat), e = .returned (.agg #[.slice a S.length c, .int .i64 (cellsL (addF P) S).length, .int .i64 (sumR x (cellsL (addF P) S))]) ∧ Ext w w' := by
  have H3 := Lib.hid h3
  obtain ⟨ax, cx, rfl, x1, x2, x3⟩ := h1
  have GX := Lib.hid x3; clear x3
  obtain ⟨ap, cp, rfl, p1, p2, p3⟩ := h2
  have GP := Lib.hid p3; clear p3
  obtain ⟨as_, cs, rfl, s1, s2, s3⟩ := h3
  have GS := Lib.hid s3; clear s3
  have hd := atk_dims hs
  have HRX := Lib.hid (pub_rc hs)
  have HRS := Lib.hid (pat_rc hs)
  have HRP := Lib.hid (pat_rc hpp)
  have HEL := Lib.hid (fun i j hi hj => pub_el hs (i := i) (j := j) hi hj)
  clear hs hpp
  obtain ⟨n, hn⟩ : ∃ n, x.length = n := ⟨_, rfl⟩
  obtain ⟨m, hm⟩ : ∃ m, (rowAt x 0).length = m := ⟨_, rfl⟩
  rw [hn] at HRX HRS HRP HEL hd x1
  rw [hm] at HRX HRS HRP HEL hd
  have hxl := HRX.out.len
  have hpl := HRP.out.len
  have hsl := HRS.out.len
  rw [hpl] at p1
  rw [hsl] at s1 H3
  rw [hn, hpl, hsl]
  have HPL := Lib.hid hpl; clear hpl
  have HSL := Lib.hid hsl; clear hsl hxl
  have HN := Lib.hid hn; clear hn
  have HM := Lib.hid hm; clear hm
  obtain ⟨d1, d2, d3, d4⟩ := hd
  have HC : Hid (S.length ≤ 1048576 ∧ (∀ k, k < S.length → (rowAt S k).length ≤ 1048576) ∧ ∀ k, k < S.length → rowAt S k ≠ []) := Lib.hid ⟨by rw [HSL.out]; omega, fun k hk => by rw [HRS.out.row k (by rw [← HSL.out]; exact hk)]; omega, fun k hk e => by
    have := HRS.out.row k (by rw [← HSL.out]; exact hk)
    rw [e] at this; simp at this; omega⟩
  have HR8 : Hid (∀ i, i < S.length → (rowAt S i).length ≤ 8) := Lib.hid (fun i hi => by rw [HRS.out.row i (by rw [← HSL.out]; exact hi)]; exact d4)
  obtain ⟨F, hF⟩ : ∃ F, addF P = F := ⟨_, rfl⟩
  rw [hF]
  have HF := Lib.hid hF; clear hF
  have u0 := (Ext.refl w).alloc (.cells #[.slice none 0 0, .int .i64 0, .int .i64 0] 47)
  have b0 := Box.new w 47 #[.slice none 0 0, .int .i64 0, .int .i64 0] rfl
  go_enter Try.func58, Try.ntmps58
  go_wp2_with fail
  refine (tOwn_c _ S _ (H3.out.ext u0) HC.out.1 HC.out.2.1 HC.out.2.2).mono ?_
  rintro e w2 ⟨v', rv, rfl, o2, u2⟩
  obtain ⟨av, cv, rfl, _, _, qq⟩ := o2
  clear qq
  rw [HSL.out]
  have uX := u0.trans u2
  have bR := b0.ext u2
  have b1 := Box.new w2 47 #[.slice av n cv, .int .i64 0, .int .i64 0] rfl
  have hz2 : w.heap.size + 1 ≤ w2.heap.size := bR.lt
  have e1 := (Ext.refl w2).alloc (.cells #[.slice av n cv, .int .i64 0, .int .i64 0] 47)
  clear u0 u2 b0
  go_wp2
  go_loopw [17] (fun i wr => ∃ k : Nat, k ≤ n ∧ i = .int .i64 k ∧ Box wr w2.heap.size 47 #[.slice av n cv, .int .i64 (cellsTo F S k 0).length, .int .i64 (sumR x (cellsTo F S k 0))] ∧ Ext w2 wr) (fun i _ => n - (intOf i).toNat)
  case atStart => exact ⟨0, Nat.zero_le _, rfl, by rw [cellsTo_start]; exact b1, e1⟩
  case round =>
    clear b1 e1
    obtain ⟨k, hk, rfl, hb, hx⟩ := hrel
    obtain ⟨wo, rfl⟩ : ∃ wo : World, wo = wr := ⟨_, rfl⟩
    have HB := Lib.hid hb; clear hb
    by_cases hlt : k < n
    · obtain ⟨bs, os, ar, cr, rfl, hc0, r1, r2, r3⟩ := GS.out.at_ (k := k) (by rw [HSL.out]; exact hlt)
      rw [HRS.out.row k hlt] at hc0 r1
      have hc := Ext.cell (uX.trans hx) hc0
      have R3 := Lib.hid r3; clear r3 hc0
      obtain ⟨bp, op, ar2, cr2, rfl, hcp, t1, t2, t3⟩ := GP.out.at_ (k := k) (by rw [HPL.out]; exact hlt)
      rw [HRP.out.row k hlt] at hcp t1
      have T3 := Lib.hid t3; clear t3
      obtain ⟨bx, ox, ar3, cr3, rfl, hcx, y1, y2, y3⟩ := GX.out.at_ (k := k) (by rw [HN.out]; exact hlt)
      rw [HRX.out.row k hlt] at hcx y1
      have Y3 := Lib.hid y3; clear y3
      go_wp2
      go_loopw [24] (fun i wr => ∃ l : Nat, l ≤ m ∧ i = .int .i64 l ∧ Box wr w2.heap.size 47 #[.slice av n cv, .int .i64 (cellsTo F S k l).length, .int .i64 (sumR x (cellsTo F S k l))] ∧ Ext w2 wr) (fun i _ => m - (intOf i).toNat)
      case atStart => exact ⟨0, Nat.zero_le _, rfl, HB.out, hx⟩
      case round =>
        clear hc hx HB
        obtain ⟨l, hl, rfl, hb, hx⟩ := hrel
        obtain ⟨wi, rfl⟩ : ∃ wi : World, wi = wr := ⟨_, rfl⟩
        by_cases hl2 : l < m
        · obtain ⟨b5, o5, rfl, hx5⟩ := R3.out l (by rw [HRS.out.row k hlt]; exact hl2)
          obtain ⟨b6, o6, rfl, hx6⟩ := T3.out l (by rw [HRP.out.row k hlt]; exact hl2)
          obtain ⟨b7, o7, rfl, hx7⟩ := Y3.out l (by rw [HRX.out.row k hlt]; exact hl2)
          have q5 : ix (rowAt S k) l = elOf S k l := rfl
          have q6 : ix (rowAt P k) l = elOf P k l := rfl
          have q7 : ix (rowAt x k) l = elOf x k l := rfl
          rw [q5] at hx5
          rw [q6] at hx6
          rw [q7] at hx7
          clear q5 q6 q7
          have e5 := Ext.cell (uX.trans hx) hx5
          have e6 := Ext.cell (uX.trans hx) hx6
          have e7 := Ext.cell (uX.trans hx) hx7
          have ecp := Ext.cell (uX.trans hx) hcp
          have ecx := Ext.cell (uX.trans hx) hcx
          clear hx5 hx6
          have z0 := hb.cell 0 (by simp)
          have z1 := hb.cell 1 (by simp)
          have z2 := hb.cell 2 (by simp)
          have f1 := hb.free 1
          have f2 := hb.free 2
          by_cases hone : elOf S k l = 1
          · by_cases hz : elOf P k l = 0
            · have hf : F k l (elOf S k l) = true := by rw [← HF.out]; simp [addF, hone, hz]
              have HCY := Lib.hid (cellsTo_yes hf); clear hf
              have hlen := cellsTo_len (f := F) (p := S) (k := k) (l := l) (m := 8) (by rw [HSL.out]; exact hk) HR8.out
              have hsb := sumR_bound (x := x) (L := cellsTo F S k l) (n := n) (m := m) HEL.out (cellsTo_row (by omega) (.inl hlt) (by omega) (fun i hi => HRS.out.row i hi))
              have hel := HEL.out k l hlt hl2
              have HSN := Lib.hid (sumR_snoc x (cellsTo F S k l) k l)
              obtain ⟨N, hN⟩ : ∃ N, (cellsTo F S k l).length = N := ⟨_, rfl⟩
              obtain ⟨T, hT⟩ : ∃ T, sumR x (cellsTo F S k l) = T := ⟨_, rfl⟩
              rw [hT] at HSN
              rw [hN, hT] at hsb hb
              rw [hN] at hlen z1
              rw [hT] at z2
              obtain ⟨X, hX⟩ : ∃ X, elOf x k l = X := ⟨_, rfl⟩
              rw [hX] at hel e7 HSN
              have hn80 : N ≤ 80 := by omega
              have hb1 : 0 ≤ T ∧ T ≤ 100000 := by omega
              have hwX : IntKind.i64.wrap (T + X) = T + X := IntWalk.i64_in _ (by omega)
              have HNN := Lib.hid hN; clear hN
              have HTT := Lib.hid hT; clear hT hsb hlen
              have HXE := Lib.hid hX; clear hX
              have hb2 := hb.set 1 (.int .i64 ((N : Int) + 1))
              have hx2 := hx.setCell (a := ⟨w2.heap.size, 1, none⟩) (.int .i64 ((N : Int) + 1)) (Nat.le_refl _)
              obtain ⟨wj, hwj⟩ : ∃ wj, wi.setCell ⟨w2.heap.size, 1, none⟩ (.int .i64 ((N : Int) + 1)) = wj := ⟨_, rfl⟩
              rw [hwj] at hb2 hx2
              have HWJ := Lib.hid hwj; clear hwj
              have k2 : wj.cell? ⟨w2.heap.size, 2, none⟩ = some (.int .i64 T) := hb2.cell 2 (by simp)
              have g2 := hb2.free 2
              have kx : wj.cell? ⟨bx, ox + k, none⟩ = some (.slice (some ⟨b7, o7, none⟩) m cr3) := Ext.cell (uX.trans hx2) hcx
              have k7 : wj.cell? ⟨b7, o7 + l, none⟩ = some (.int .i64 X) := Ext.cell (uX.trans hx2) (by rw [← HXE.out]; exact hx7)
              have hnx : bx ≠ w2.heap.size := by have := World.block_lt_of_cell? w _ hcx; simp only at this; omega
              have hn7 : b7 ≠ w2.heap.size := by have := World.block_lt_of_cell? w _ hx7; simp only at this; omega
              have hb3 := hb2.drew.set 2 (.int .i64 (T + X))
              have hx3 := hx2.drew.setCell (a := ⟨w2.heap.size, 2, none⟩) (.int .i64 (T + X)) (Nat.le_refl _)
              have HB3 := Lib.hid (And.intro hb3 hx3); clear hb3 hx3
              go_wp2_with fail
              rw [HWJ.out]
              go_region
              go_wp2
              go_roundw
              case rel => exact ⟨l + 1, by omega, by go_num, by rw [HCY.out, HSN.out, List.length_append, HNN.out]; exact HB3.out.1, HB3.out.2⟩
              case measure => simp [intOf]; omega
            · have hf : F k l (elOf S k l) = false := by rw [← HF.out]; simp [addF, hz]
              have HCN := Lib.hid (cellsTo_no hf); clear hf
              have HBB := Lib.hid hb; clear hb
              clear z0 z1 z2 f1 f2
              go_wp2
              go_roundw
              case rel => exact ⟨l + 1, by omega, by go_num, by rw [HCN.out]; exact HBB.out, hx⟩
              case measure => simp [intOf]; omega
          · have hf : F k l (elOf S k l) = false := by rw [← HF.out]; simp [addF, hone]
            have HCN := Lib.hid (cellsTo_no hf); clear hf
            have HBB := Lib.hid hb; clear hb
            clear z0 z1 z2 f1 f2
            go_wp2
            go_roundw
            case rel => exact ⟨l + 1, by omega, by go_num, by rw [HCN.out]; exact HBB.out, hx⟩
            case measure => simp [intOf]; omega
        · have hlm : l = (rowAt S k).length := by rw [HRS.out.row k hlt]; omega
          have HCX := Lib.hid (cellsTo_next (f := F) hlm); clear hlm
          have HBB := Lib.hid hb; clear hb
          go_wp2
          go_roundw
          case rel => exact ⟨k + 1, by omega, by go_num, by rw [HCX.out]; exact HBB.out, hx⟩
          case measure => simp [intOf]; omega
    · have hkk : k = S.length := by rw [HSL.out]; omega
      have HKK : Hid (cellsTo F S k 0 = cellsL F S) := Lib.hid (by unfold cellsL; rw [← hkk])
      clear hkk
      have hb := HB.out
      rw [HKK.out] at hb
      have br := bR.ext hx
      have f0 := br.free 0
      have f1 := br.free 1
      have f2 := br.free 2
      have g0 := br.cell 0 (by simp)
      have g1 := br.cell 1 (by simp)
      have g2 := br.cell 2 (by simp)
      have k0 := hb.cell 0 (by simp)
      have k1 := hb.cell 1 (by simp)
      have k2 := hb.cell 2 (by simp)
      have hxw := uX.trans hx
      clear HB
      go_wp2
      refine bodyPost_ret (v := .agg #[.slice av n cv, .int .i64 (cellsL F S).length, .int .i64 (sumR x (cellsL F S))]) (by simp [results, Try.results58, go_sem, g0, g1, g2]) rfl ⟨_, _, rfl, ((hxw.setCell _ (Nat.le_refl _)).setCell _ (Nat.le_refl _)).setCell _ (Nat.le_refl _)⟩
end Go.Proofs.Ytginndoggpfadaa
namespace Go.Proofs.Ytginndoggpfadaa
open Go.RowKit
open Fm

noncomputable def cpB (x P : List (List Int)) (down up : Int) : Bool := pubB x P && levB down up
/-- 1: no pattern over P; 2: not safe; 3: other counts; 0: as it says -/
noncomputable def cpCode (x P S : List (List Int)) (down up h t : Int) : Int :=
  if inpB x S P = true then (if safeB x S P down up = true then (if ((cellsL (addF P) S).length : Int) = h ∧ sumR x (cellsL (addF P) S) = t then 0 else 3) else 2) else 1
noncomputable def cpV (x P S : List (List Int)) (down up h t : Int) : Int := if cpB x P down up = true then cpCode x P S down up h t else 0

set_option maxRecDepth 100000 in
set_option maxHeartbeats 1600000 in
theorem specCp_c (v1 : Value) (x : List (List Int)) (v2 : Value) (P : List (List Int)) (down up : Int) (as_ : Option Addr) (cs : Nat) (S : List (List Int)) (h t : Int) (w : World) (h1 : Grid w v1 x) (h2 : Grid w v2 P) (h3 : Grid w (.slice as_ S.length cs) S) :
    Calls Try.prog 28 #[v1, v2, .int .i64 down, .int .i64 up, .agg #[.slice as_ S.length cs, .int .i64 h, .int .i64 t]] w fun e w' => e = .returned (.tuple #[.int .i64 (cpV x P S down up h t), .bool (cpB x P down up)]) ∧ Ext w w' := by
  have H1 := Lib.hid h1; clear h1
  have H2 := Lib.hid h2; clear h2
  have H3 := Lib.hid h3; clear h3
  have u0 := (Ext.refl w).alloc (.cells #[.slice as_ S.length cs, .int .i64 h, .int .i64 t] 47)
  have b0 := Box.new w 47 #[.slice as_ S.length cs, .int .i64 h, .int .i64 t] rfl
  cases hp : pubB x P
  · have hB : cpB x P down up = false := by simp only [cpB, hp, Bool.false_and]
    have hV : cpV x P S down up h t = 0 := by simp [cpV, hB]
    rw [hB, hV]; clear hB hV
    have HP := Lib.hid (show (gridB 8 1000 x && patB x P) = false from hp); clear hp
    go_enter Try.func28, Try.ntmps28
    go_wp2_with fail
    refine (qPattern_b false _ _ x P _ HP.out (H1.out.ext u0) (H2.out.ext u0)).mono ?_
    rintro e w1 ⟨rfl, d1⟩
    have u1 := u0.trans (Drew.ext d1)
    go_wp2
    go_ret2
    exact ⟨rfl, u1⟩
  have HP := Lib.hid (show (gridB 8 1000 x && patB x P) = true from hp)
  cases hl : levB down up
  · have hB : cpB x P down up = false := by simp only [cpB, hl, Bool.and_false]
    have hV : cpV x P S down up h t = 0 := by simp [cpV, hB]
    rw [hB, hV]; clear hB hV
    have HL := Lib.hid hl; clear hl hp
    go_enter Try.func28, Try.ntmps28
    go_wp2_with fail
    refine (qPattern_b true _ _ x P _ HP.out (H1.out.ext u0) (H2.out.ext u0)).mono ?_
    rintro e w1 ⟨rfl, d1⟩
    have u1 := u0.trans (Drew.ext d1)
    go_wp2_with fail
    refine (vLevels_b false down up _ HL.out).mono ?_
    rintro e w2 ⟨rfl, rfl⟩
    go_wp2
    go_ret2
    exact ⟨rfl, u1⟩
  have hB : cpB x P down up = true := by simp only [cpB, hp, hl, Bool.and_self]
  have hV : cpV x P S down up h t = cpCode x P S down up h t := by simp [cpV, hB]
  rw [hB, hV]; clear hB hV
  have HL := Lib.hid hl; clear hl
  cases hi : inpB x S P
  · have hV : cpCode x P S down up h t = 1 := by simp [cpCode, hi]
    rw [hV]; clear hV
    have HI := Lib.hid hi; clear hi hp
    go_enter Try.func28, Try.ntmps28
    go_wp2_with fail
    refine (qPattern_b true _ _ x P _ HP.out (H1.out.ext u0) (H2.out.ext u0)).mono ?_
    rintro e w1 ⟨rfl, d1⟩
    have u1 := u0.trans (Drew.ext d1)
    have b1 := b0.ext (Drew.ext d1)
    have y0 := b1.cell 0 (by simp)
    go_wp2_with fail
    refine (vLevels_b true down up _ HL.out).mono ?_
    rintro e w2 ⟨rfl, rfl⟩
    go_wp2_with fail
    refine (vInput_b false _ _ _ x S P _ HI.out (H1.out.ext u1) (H3.out.ext u1) (H2.out.ext u1)).mono ?_
    rintro e w3 ⟨rfl, u3⟩
    go_wp2
    go_ret2
    exact ⟨rfl, u1.trans u3⟩
  have HI := Lib.hid hi
  cases hsf : safeB x S P down up
  · have hV : cpCode x P S down up h t = 2 := by simp [cpCode, hi, hsf]
    rw [hV]; clear hV
    have HS := Lib.hid hsf; clear hsf hi hp
    go_enter Try.func28, Try.ntmps28
    go_wp2_with fail
    refine (qPattern_b true _ _ x P _ HP.out (H1.out.ext u0) (H2.out.ext u0)).mono ?_
    rintro e w1 ⟨rfl, d1⟩
    have u1 := u0.trans (Drew.ext d1)
    have b1 := b0.ext (Drew.ext d1)
    have y0 := b1.cell 0 (by simp)
    go_wp2_with fail
    refine (vLevels_b true down up _ HL.out).mono ?_
    rintro e w2 ⟨rfl, rfl⟩
    go_wp2_with fail
    refine (vInput_b true _ _ _ x S P _ HI.out (H1.out.ext u1) (H3.out.ext u1) (H2.out.ext u1)).mono ?_
    rintro e w3 ⟨rfl, u3⟩
    have u4 := u1.trans u3
    have b3 := b1.ext u3
    have z0 := b3.cell 0 (by simp)
    go_wp2_with fail
    refine (vSafe_b false x S P _ _ _ down up _ HS.out HI.out HL.out (H1.out.ext u4) (H3.out.ext u4) (H2.out.ext u4)).mono ?_
    rintro e w5 ⟨rfl, u5⟩
    go_wp2
    go_ret2
    exact ⟨rfl, u4.trans u5⟩
  obtain ⟨hps, _, _⟩ := inpB_true hi
  have HPS := Lib.hid hps; clear hps
  have HS := Lib.hid hsf
  obtain ⟨N, hN⟩ : ∃ N, (cellsL (addF P) S).length = N := ⟨_, rfl⟩
  obtain ⟨T, hT⟩ : ∃ T, sumR x (cellsL (addF P) S) = T := ⟨_, rfl⟩
  have hV : cpCode x P S down up h t = if (N : Int) = h ∧ T = t then 0 else 3 := by simp [cpCode, hi, hsf, hN, hT]
  obtain ⟨V, hVV⟩ : ∃ V, cpCode x P S down up h t = V := ⟨_, rfl⟩
  rw [hVV] at hV ⊢
  have HV := Lib.hid hV; clear hV hVV
  have HPP := Lib.hid hp
  have HNT := Lib.hid (And.intro hN hT); clear hN hT hsf hi hp
  go_enter Try.func28, Try.ntmps28
  go_wp2_with fail
  refine (qPattern_b true _ _ x P _ HP.out (H1.out.ext u0) (H2.out.ext u0)).mono ?_
  rintro e w1 ⟨rfl, d1⟩
  have u1 := u0.trans (Drew.ext d1)
  have b1 := b0.ext (Drew.ext d1)
  have y0 := b1.cell 0 (by simp)
  go_wp2_with fail
  refine (vLevels_b true down up _ HL.out).mono ?_
  rintro e w2 ⟨rfl, rfl⟩
  go_wp2_with fail
  refine (vInput_b true _ _ _ x S P _ HI.out (H1.out.ext u1) (H3.out.ext u1) (H2.out.ext u1)).mono ?_
  rintro e w3 ⟨rfl, u3⟩
  have u4 := u1.trans u3
  have b3 := b1.ext u3
  have z0 := b3.cell 0 (by simp)
  go_wp2_with fail
  refine (vSafe_b true x S P _ _ _ down up _ HS.out HI.out HL.out (H1.out.ext u4) (H3.out.ext u4) (H2.out.ext u4)).mono ?_
  rintro e w5 ⟨rfl, u5⟩
  have u6 := u4.trans u5
  have b5 := b3.ext u5
  have a0 := b5.cell 0 (by simp)
  go_wp2_with fail
  refine (vPlan_c x P S _ _ _ _ HPS.out HPP.out (H1.out.ext u6) (H2.out.ext u6) (H3.out.ext u6)).mono ?_
  rw [HNT.out.1, HNT.out.2]
  rintro e w7 ⟨av, cv, rfl, u7⟩
  have b7 := (b5.ext u7).alloc (.cells #[.slice av S.length cv, .int .i64 N, .int .i64 T] 47)
  have c1 := b7.cell 1 (by simp)
  have c2 := b7.cell 2 (by simp)
  have u8 := (u6.trans u7).alloc (.cells #[.slice av S.length cv, .int .i64 N, .int .i64 T] 47)
  by_cases e1 : (N : Int) = h
  · by_cases e2 : T = t
    · have hv : V = 0 := by rw [HV.out, if_pos ⟨e1, e2⟩]
      subst hv
      clear HV
      subst e1 e2
      go_wp2
      go_ret2
      exact ⟨rfl, u8⟩
    · have hv : V = 3 := by rw [HV.out, if_neg (fun e => e2 e.2)]
      subst hv
      clear HV
      subst e1
      have q2 : (T != t) = true := by simp [e2]
      go_wp2
      go_ret2
      exact ⟨rfl, u8⟩
  · have hv : V = 3 := by rw [HV.out, if_neg (fun e => e1 e.1)]
    subst hv
    have q1 : ((N : Int) != h) = true := by simp [e1]
    clear HV
    go_wp2
    go_ret2
    exact ⟨rfl, u8⟩
end Go.Proofs.Ytginndoggpfadaa
namespace Go.Proofs.Ytginndoggpfadaa
open Go.RowKit
open Fm

/-- the cells among the first t of a list that P does not hide -/
def addTo (P : List (List Int)) (L : List (List Int)) (t : Nat) : List (List Int) := (L.take t).filter (addQ P)
theorem addTo_yes {P L : List (List Int)} {t i j : Nat} (ht : t < L.length) (er : rowAt L t = pairI i j) (h : elOf P i j = 0) : addTo P L (t + 1) = addTo P L t ++ [pairI i j] := by
  unfold addTo
  rw [take_succ_row ht, List.filter_append, er]
  simp [addQ_pair, h]
theorem addTo_no {P L : List (List Int)} {t i j : Nat} (ht : t < L.length) (er : rowAt L t = pairI i j) (h : ¬ elOf P i j = 0) : addTo P L (t + 1) = addTo P L t := by
  unfold addTo
  rw [take_succ_row ht, List.filter_append, er]
  simp [addQ_pair, h]
theorem addTo_len (P L : List (List Int)) (t : Nat) : (addTo P L t).length ≤ t := by
  unfold addTo
  have h1 := List.length_filter_le (addQ P) (L.take t)
  have h2 : (L.take t).length ≤ t := by simp; omega
  omega

set_option maxRecDepth 100000 in
set_option maxHeartbeats 3200000 in
theorem implCp_c (v1 : Value) (x : List (List Int)) (v2 : Value) (P : List (List Int)) (down up : Int) (as_ : Option Addr) (cs : Nat) (S : List (List Int)) (h t : Int) (w : World) (h1 : Grid w v1 x) (h2 : Grid w v2 P) (h3 : Grid w (.slice as_ S.length cs) S) :
    Calls Try.prog 30 #[v1, v2, .int .i64 down, .int .i64 up, .agg #[.slice as_ S.length cs, .int .i64 h, .int .i64 t]] w fun e w' => e = .returned (.tuple #[.int .i64 (cpV x P S down up h t), .bool (cpB x P down up)]) ∧ Ext w w' := by
  have H1 := Lib.hid h1
  have H2 := Lib.hid h2
  have H3 := Lib.hid h3
  obtain ⟨ax, cx, rfl, x1, x2, x3⟩ := h1
  have GX := Lib.hid x3; clear x3
  obtain ⟨ap, cp, rfl, p1, p2, p3⟩ := h2
  have GP := Lib.hid p3; clear p3
  have hsl : S.length ≤ cs ∧ cs ≤ 9223372036854775807 := by
    obtain ⟨a, c, e, q1, q2, _⟩ := h3
    simp only [Value.slice.injEq] at e
    omega
  clear h3
  have u0 := (Ext.refl w).alloc (.cells #[.slice as_ S.length cs, .int .i64 h, .int .i64 t] 47)
  have b0 := Box.new w 47 #[.slice as_ S.length cs, .int .i64 h, .int .i64 t] rfl
  have y0 := b0.cell 0 (by simp)
  cases hp : pubB x P
  · have hB : cpB x P down up = false := by simp only [cpB, hp, Bool.false_and]
    have hV : cpV x P S down up h t = 0 := by simp [cpV, hB]
    rw [hB, hV]; clear hB hV
    have HP := Lib.hid hp; clear hp
    go_enter Try.func30, Try.ntmps30
    go_wp2_with fail
    refine (areSuppressed_b false _ _ x P _ HP.out (H1.out.ext u0) (H2.out.ext u0)).mono ?_
    rintro e w1 ⟨rfl, rfl⟩
    go_wp2
    go_ret2
    exact ⟨rfl, u0⟩
  have hg : gridB 8 1000 x = true := (pubB_shape hp).1
  have HG := Lib.hid hg; clear hg
  cases hl : levB down up
  · have hB : cpB x P down up = false := by simp only [cpB, hl, Bool.and_false]
    have hV : cpV x P S down up h t = 0 := by simp [cpV, hB]
    rw [hB, hV]; clear hB hV
    have HP := Lib.hid hp; clear hp
    have HL := Lib.hid hl; clear hl
    go_enter Try.func30, Try.ntmps30
    go_wp2_with fail
    refine (areSuppressed_b true _ _ x P _ HP.out (H1.out.ext u0) (H2.out.ext u0)).mono ?_
    rintro e w1 ⟨rfl, rfl⟩
    go_wp2_with fail
    refine (areMargins_b false down up _ HL.out).mono ?_
    rintro e w1 ⟨rfl, rfl⟩
    go_wp2
    go_ret2
    exact ⟨rfl, u0⟩
  have hB : cpB x P down up = true := by simp only [cpB, hp, hl, Bool.and_self]
  have hV : cpV x P S down up h t = cpCode x P S down up h t := by simp [cpV, hB]
  rw [hB, hV]; clear hB hV
  have HL := Lib.hid hl; clear hl
  have HP := Lib.hid hp
  cases hs : pubB x S
  · have hV : cpCode x P S down up h t = 1 := by simp [cpCode, inpB, hs]
    rw [hV]; clear hV
    have HS : Hid (patB x S = false) := Lib.hid (by have h9 : (gridB 8 1000 x && patB x S) = false := hs; rw [HG.out, Bool.true_and] at h9; exact h9)
    clear hp hs
    go_enter Try.func30, Try.ntmps30
    go_wp2_with fail
    refine (areSuppressed_b true _ _ x P _ HP.out (H1.out.ext u0) (H2.out.ext u0)).mono ?_
    rintro e w1 ⟨rfl, rfl⟩
    go_wp2_with fail
    refine (areMargins_b true down up _ HL.out).mono ?_
    rintro e w1 ⟨rfl, rfl⟩
    go_wp2_with fail
    refine (isPattern_b false _ _ x S _ HS.out HG.out (H1.out.ext u0) (H3.out.ext u0)).mono ?_
    rintro e w1 ⟨rfl, rfl⟩
    go_wp2
    go_ret2
    exact ⟨rfl, u0⟩
  have HS : Hid (patB x S = true) := Lib.hid (by have h9 : (gridB 8 1000 x && patB x S) = true := hs; rw [HG.out, Bool.true_and] at h9; exact h9)
  have RP := Lib.hid (pat_rc hp)
  have RS := Lib.hid (pat_rc hs)
  have RX := Lib.hid (pub_rc hp)
  have HEL := Lib.hid (fun i j hi hj => pub_el hp (i := i) (j := j) hi hj)
  obtain ⟨d1, d2, d3, d4⟩ := atk_dims hp
  cases hc : coverB S P
  · have hV : cpCode x P S down up h t = 1 := by simp [cpCode, inpB, hc]
    rw [hV]; clear hV
    have HC := Lib.hid hc; clear hc hp hs
    go_enter Try.func30, Try.ntmps30
    go_wp2_with fail
    refine (areSuppressed_b true _ _ x P _ HP.out (H1.out.ext u0) (H2.out.ext u0)).mono ?_
    rintro e w1 ⟨rfl, rfl⟩
    go_wp2_with fail
    refine (areMargins_b true down up _ HL.out).mono ?_
    rintro e w1 ⟨rfl, rfl⟩
    go_wp2_with fail
    refine (isPattern_b true _ _ x S _ HS.out HG.out (H1.out.ext u0) (H3.out.ext u0)).mono ?_
    rintro e w1 ⟨rfl, rfl⟩
    go_wp2_with fail
    refine (covers_b false _ _ S P _ _ _ HC.out (H3.out.ext u0) (H2.out.ext u0) RS.out RP.out d2 d4).mono ?_
    rintro e w2 ⟨rfl, u2⟩
    go_wp2
    go_ret2
    exact ⟨rfl, u0.trans u2⟩
  have hI : inpB x S P = true := by simp only [inpB, hp, hs, hc, Bool.and_self]
  have HI := Lib.hid hI
  have HC := Lib.hid hc; clear hc hp hs
  cases hsf : safeB x S P down up
  · have hV : cpCode x P S down up h t = 2 := by simp [cpCode, hI, hsf]
    rw [hV]; clear hV hI
    have HSF := Lib.hid hsf; clear hsf
    go_enter Try.func30, Try.ntmps30
    go_wp2_with fail
    refine (areSuppressed_b true _ _ x P _ HP.out (H1.out.ext u0) (H2.out.ext u0)).mono ?_
    rintro e w1 ⟨rfl, rfl⟩
    go_wp2_with fail
    refine (areMargins_b true down up _ HL.out).mono ?_
    rintro e w1 ⟨rfl, rfl⟩
    go_wp2_with fail
    refine (isPattern_b true _ _ x S _ HS.out HG.out (H1.out.ext u0) (H3.out.ext u0)).mono ?_
    rintro e w1 ⟨rfl, rfl⟩
    go_wp2_with fail
    refine (covers_b true _ _ S P _ _ _ HC.out (H3.out.ext u0) (H2.out.ext u0) RS.out RP.out d2 d4).mono ?_
    rintro e w2 ⟨rfl, u2⟩
    have z0 := (b0.ext u2).cell 0 (by simp)
    go_wp2_with fail
    refine (protects_b false x S P _ _ _ down up _ HSF.out HI.out HL.out (H1.out.ext (u0.trans u2)) (H3.out.ext (u0.trans u2)) (H2.out.ext (u0.trans u2))).mono ?_
    rintro e w3 ⟨rfl, u3⟩
    go_wp2
    go_ret2
    exact ⟨rfl, (u0.trans u2).trans u3⟩
  have HSF := Lib.hid hsf
  have hV : cpCode x P S down up h t = if ((cellsL (addF P) S).length : Int) = h ∧ sumR x (cellsL (addF P) S) = t then 0 else 3 := by simp [cpCode, hI, hsf]
  clear hI hsf
  have HAF : Hid ((cellsL oneF S).filter (addQ P) = cellsL (addF P) S) := Lib.hid (add_filter P S)
  rw [← HAF.out] at hV
  obtain ⟨n, hn⟩ : ∃ n, x.length = n := ⟨_, rfl⟩
  obtain ⟨m, hm⟩ : ∃ m, (rowAt x 0).length = m := ⟨_, rfl⟩
  rw [hn, hm] at RP RS RX HEL
  rw [hn] at d1 d2 x1
  rw [hm] at d3 d4
  rw [hn]
  have hpl := RP.out.len
  rw [hpl] at p1 ⊢
  have HPL := Lib.hid hpl; clear hpl
  have HN := Lib.hid hn; clear hn
  have HM := Lib.hid hm; clear hm
  have hl8 := cellsL_len (f := oneF) (p := S) (m := 8) (fun i hi => by rw [RS.out.row i (by rw [← RS.out.len]; exact hi)]; exact d4)
  rw [RS.out.len] at hl8
  have hs8 : S.length ≤ 8 := by rw [RS.out.len]; exact d2
  have hr8 : ∀ i, i < S.length → (rowAt S i).length ≤ 8 := fun i hi => by rw [RS.out.row i (by rw [← RS.out.len]; exact hi)]; exact d4
  have HS8 := Lib.hid (And.intro hs8 hr8); clear hs8 hr8
  have HRW : Hid (∀ q ∈ cellsL oneF S, ∃ i j, i < n ∧ j < m ∧ q = pairI i j) := Lib.hid (fun q hq => by
    obtain ⟨k, hk, rfl⟩ := List.getElem_of_mem hq
    obtain ⟨i, j, hi, hj, _, er⟩ := cellsL_row (f := oneF) (p := S) hk
    rw [rowAt_eq hk] at er
    have hi' : i < n := by rw [← RS.out.len]; exact hi
    exact ⟨i, j, hi', by rw [← RS.out.row i hi']; exact hj, er⟩)
  obtain ⟨L, hL⟩ : ∃ L, cellsL oneF S = L := ⟨_, rfl⟩
  obtain ⟨N, hN⟩ : ∃ N, L.length = N := ⟨_, rfl⟩
  rw [hL] at hV HRW
  rw [hL, hN] at hl8
  have HLL := Lib.hid hL; clear hL
  have HNN := Lib.hid hN; clear hN
  have hN64 : N ≤ 64 := by omega
  clear hl8
  have HSB : Hid (∀ k, 0 ≤ sumR x (addTo P L k) ∧ sumR x (addTo P L k) ≤ ((addTo P L k).length : Int) * 1000) := Lib.hid (fun k => sumR_bound (n := n) (m := m) HEL.out (fun q hq => HRW.out q (List.mem_of_mem_take (List.mem_filter.1 hq).1)))
  obtain ⟨V, hVV⟩ : ∃ V, cpCode x P S down up h t = V := ⟨_, rfl⟩
  rw [hVV] at hV ⊢
  have HV := Lib.hid hV; clear hV hVV
  go_enter Try.func30, Try.ntmps30
  go_wp2_with fail
  refine (areSuppressed_b true _ _ x P _ HP.out (by have := H1.out.ext u0; rw [HN.out] at this; exact this) (by have := H2.out.ext u0; rw [HPL.out] at this; exact this)).mono ?_
  rintro e w1 ⟨rfl, rfl⟩
  go_wp2_with fail
  refine (areMargins_b true down up _ HL.out).mono ?_
  rintro e w1 ⟨rfl, rfl⟩
  go_wp2_with fail
  refine (isPattern_b true _ _ x S _ HS.out HG.out (by have := H1.out.ext u0; rw [HN.out] at this; exact this) (H3.out.ext u0)).mono ?_
  rintro e w1 ⟨rfl, rfl⟩
  go_wp2_with fail
  refine (covers_b true _ _ S P _ _ _ HC.out (H3.out.ext u0) (by have := H2.out.ext u0; rw [HPL.out] at this; exact this) RS.out RP.out d2 d4).mono ?_
  rintro e w2 ⟨rfl, u2⟩
  have u02 := u0.trans u2
  have b2 := b0.ext u2
  have z0 := b2.cell 0 (by simp)
  go_wp2_with fail
  refine (protects_b true x S P _ _ _ down up _ HSF.out HI.out HL.out (by have := H1.out.ext u02; rw [HN.out] at this; exact this) (H3.out.ext u02) (by have := H2.out.ext u02; rw [HPL.out] at this; exact this)).mono ?_
  rintro e w3 ⟨rfl, u3⟩
  have u03 := u02.trans u3
  have b3 := b2.ext u3
  have k0 := b3.cell 0 (by simp)
  go_wp2_with fail
  refine (positions_c _ S _ (H3.out.ext u03) HS8.out.1 HS8.out.2).mono ?_
  rw [HLL.out]
  rintro e w4 ⟨v', rvs, rfl, og, u4⟩
  obtain ⟨aq, cq, rfl, l1, l2, og⟩ := og
  have OG := Lib.hid og; clear og
  rw [HNN.out] at l1 ⊢
  have u04 := u03.trans u4
  have b4 := b3.ext u4
  clear k0 z0 y0 u0 u2 u02 u3 u03 b0 b2 b3
  go_wp2
  go_loopw [12, 13, 50] (fun a s i wr => ∃ k : Nat, k ≤ N ∧ i = .int .i64 k ∧ a = .int .i64 (addTo P L k).length ∧ s = .int .i64 (sumR x (addTo P L k)) ∧ Ext w4 wr) (fun _ _ i _ => N - (intOf i).toNat)
  case atStart => exact ⟨0, Nat.zero_le _, rfl, by simp [addTo], by simp [addTo, sumR], Ext.refl _⟩
  case round =>
    obtain ⟨k, hk, rfl, rfl, rfl, hx⟩ := hrel
    obtain ⟨wo, rfl⟩ : ∃ wo : World, wo = wr := ⟨_, rfl⟩
    have hxx := u04.trans hx
    by_cases hlt : k < N
    · obtain ⟨i, j, hi, hjj, hf, er⟩ := cellsL_row (f := oneF) (p := S) (t := k) (by rw [HLL.out, HNN.out]; exact hlt)
      rw [HLL.out] at er
      have hi' : i < n := by rw [← RS.out.len]; exact hi
      have hj' : j < m := by rw [← RS.out.row i hi']; exact hjj
      have htL : k < L.length := by rw [HNN.out]; exact hlt
      clear hi hjj hf
      obtain ⟨bq, oq, rfl, _, _, _, hcq, _⟩ := (OG.out.ext hx).at_ (k := k) htL
      have hrow := (OG.out.ext hx).row k htL
      rw [er] at hrow
      obtain ⟨ar, cr, erv, k1, k2, oa⟩ := hrow
      have k3 : (pairI i j).length = 2 := rfl
      rw [k3] at erv k1
      rw [erv] at hcq
      obtain ⟨b5, o5, rfl, _, _, _, hx5, _⟩ := oa.at_ (k := 0) (by rw [k3]; omega)
      obtain ⟨b5', o5', e6, _, _, _, hx6, _⟩ := oa.at_ (k := 1) (by rw [k3]; omega)
      simp only [Option.some.injEq, Addr.mk.injEq, and_true] at e6
      obtain ⟨rfl, rfl⟩ := e6
      have q5 : ix (pairI i j) 0 = (i : Int) := rfl
      have q6 : ix (pairI i j) 1 = (j : Int) := rfl
      rw [q5, Nat.add_zero] at hx5
      rw [q6] at hx6
      clear q5 q6 k3 erv oa
      obtain ⟨bp, op, ar2, cr2, rfl, hc2, t1, t2, t3⟩ := GP.out.at_ (k := i) (by rw [HPL.out]; exact hi')
      rw [RP.out.row i hi'] at hc2 t1
      obtain ⟨b7, o7, rfl, hx7⟩ := t3 j (by rw [RP.out.row i hi']; exact hj')
      have q7 : ix (rowAt P i) j = elOf P i j := rfl
      rw [q7] at hx7
      clear q7 t3
      have ec2 := Ext.cell hxx hc2
      have ec7 := Ext.cell hxx hx7
      clear hc2 hx7
      have hal := addTo_len P L k
      have hsb := HSB.out k
      have HAY : Hid (elOf P i j = 0 → addTo P L (k + 1) = addTo P L k ++ [pairI i j]) := Lib.hid (addTo_yes htL er)
      have HAN : Hid (¬ elOf P i j = 0 → addTo P L (k + 1) = addTo P L k) := Lib.hid (addTo_no htL er)
      have HSN := Lib.hid (sumR_snoc x (addTo P L k) i j)
      clear er htL
      by_cases hz : elOf P i j = 0
      · obtain ⟨bx, ox, ar3, cr3, rfl, hc3, r1, r2, r3⟩ := GX.out.at_ (k := i) (by rw [HN.out]; exact hi')
        rw [RX.out.row i hi'] at hc3 r1
        obtain ⟨b8, o8, rfl, hx8⟩ := r3 j (by rw [RX.out.row i hi']; exact hj')
        have q8 : ix (rowAt x i) j = elOf x i j := rfl
        rw [q8] at hx8
        clear q8 r3
        have ec3 := Ext.cell hxx hc3
        have ec8 := Ext.cell hxx hx8
        clear hc3 hx8
        have hel := HEL.out i j hi' hj'
        have HA2 := Lib.hid (HAY.out hz)
        obtain ⟨A, hA⟩ : ∃ A, (addTo P L k).length = A := ⟨_, rfl⟩
        obtain ⟨T, hT⟩ : ∃ T, sumR x (addTo P L k) = T := ⟨_, rfl⟩
        obtain ⟨X, hX⟩ : ∃ X, elOf x i j = X := ⟨_, rfl⟩
        rw [hA] at hal hsb ⊢
        rw [hT] at hsb HSN ⊢
        rw [hX] at hel ec8 HSN
        have HAA := Lib.hid hA; clear hA
        have hb1 : 0 ≤ T ∧ T ≤ 100000 := by omega
        clear hsb hT hX
        obtain ⟨Z, hZ⟩ : ∃ Z, T + X = Z := ⟨_, rfl⟩
        have hwZ : IntKind.i64.wrap Z = Z := IntWalk.i64_in _ (by omega)
        have HZE := Lib.hid hZ
        go_wp2_with fail
        go_quiet (fail)
        go_wp2_with fail
        go_quiet (fail)
        go_wp2
        go_roundw
        case rel => exact ⟨k + 1, by omega, by go_num, by rw [HA2.out, List.length_append, HAA.out]; go_num, by rw [HA2.out, HSN.out, HZE.out], hx.drewN _⟩
        case measure => simp [intOf]; omega
      · have HA2 := Lib.hid (HAN.out hz)
        go_wp2_with fail
        go_quiet (fail)
        go_wp2
        go_roundw
        case rel => exact ⟨k + 1, by omega, by go_num, by rw [HA2.out], by rw [HA2.out], hx.drewN _⟩
        case measure => simp [intOf]; omega
    · have hkN : k = N := by omega
      have HE : Hid (addTo P L k = L.filter (addQ P)) := Lib.hid (by unfold addTo; rw [List.take_of_length_le (by rw [HNN.out]; omega)])
      clear hkN
      have bz := b4.ext hx
      have z0 := bz.cell 0 (by simp)
      have z1 := bz.cell 1 (by simp)
      have z2 := bz.cell 2 (by simp)
      obtain ⟨A, hA⟩ : ∃ A : Nat, (addTo P L k).length = A := ⟨_, rfl⟩
      obtain ⟨T, hT⟩ : ∃ T, sumR x (addTo P L k) = T := ⟨_, rfl⟩
      have HVA : Hid (V = if (A : Int) = h ∧ T = t then 0 else 3) := Lib.hid (by rw [HV.out, ← hA, ← hT, HE.out])
      rw [hA, hT]
      clear hA hT
      by_cases ea : h = (A : Int)
      · by_cases et : t = T
        · have hv : V = 0 := by rw [HVA.out, if_pos ⟨ea.symm, et.symm⟩]
          subst hv
          have q1 : (h != (A : Int)) = false := by simp [ea]
          have q2 : (t != T) = false := by simp [et]
          clear HVA HV ea et
          go_wp2
          go_ret2
          exact ⟨rfl, hxx⟩
        · have hv : V = 3 := by rw [HVA.out, if_neg (fun e => et e.2.symm)]
          subst hv
          have q1 : (h != (A : Int)) = false := by simp [ea]
          have q2 : (t != T) = true := by simp [et]
          clear HVA HV ea et
          go_wp2
          go_ret2
          exact ⟨rfl, hxx⟩
      · have hv : V = 3 := by rw [HVA.out, if_neg (fun e => ea e.1.symm)]
        subst hv
        have q1 : (h != (A : Int)) = true := by simp [ea]
        clear HVA HV ea
        go_wp2
        go_ret2
        exact ⟨rfl, hxx⟩
end Go.Proofs.Ytginndoggpfadaa
namespace Go.Proofs.Ytginndoggpfadaa
open Go.RowKit

structure Pl where
  cells : List (List Int)
  hidden : Int
  total : Int
/-- the value v reads as T -/
def PlR (w : World) (v : Value) (T : Pl) : Prop := ∃ v0 v1 v2, v = .agg #[v0, v1, v2] ∧ Grid w v0 T.cells ∧ v1 = .int .i64 T.hidden ∧ v2 = .int .i64 T.total
def PlWf (T : Pl) : Prop := WfG T.cells ∧ (-9223372036854775808 ≤ T.hidden ∧ T.hidden ≤ 9223372036854775807) ∧ (-9223372036854775808 ≤ T.total ∧ T.total ≤ 9223372036854775807)
def PlSmall (T : Pl) : Prop := Small T.cells
theorem PlR.ext {w w' : World} {v : Value} {T : Pl} (h : PlR w v T) (u : Ext w w') : PlR w' v T := by
  obtain ⟨v0, v1, v2, rfl, h0, h1, h2⟩ := h
  exact ⟨_, _, _, rfl, h0.ext u, h1, h2⟩
theorem PlR.form {w : World} {v : Value} {T : Pl} (h : PlR w v T) : ∃ a0 c0, v = .agg #[.slice a0 T.cells.length c0, .int .i64 T.hidden, .int .i64 T.total] ∧ T.cells.length ≤ 9223372036854775807 := by
  obtain ⟨v0, v1, v2, rfl, h0, h1, h2⟩ := h
  obtain ⟨a0, c0, rfl, p0, q0, _⟩ := h0
  subst h1
  subst h2
  exact ⟨a0, c0, rfl, by omega⟩
theorem PlR.f0 {w : World} {T : Pl} {v0 v1 v2 : Value} (h : PlR w (.agg #[v0, v1, v2]) T) : Grid w v0 T.cells := by
  obtain ⟨x0, x1, x2, e, h0, h1, h2⟩ := h
  simp only [Value.agg.injEq, Array.mk.injEq, List.cons.injEq, and_true] at e
  obtain ⟨rfl, rfl, rfl⟩ := e
  exact h0
/-- the value v reads as T, each field in blocks of its own, which are apart from the other fields' -/
def PlO (lo hi : Nat) (w : World) (v : Value) (T : Pl) : Prop := ∃ (v0 v1 v2 : Value) (r0 : List Value), v = .agg #[v0, v1, v2] ∧ OwnG lo hi w v0 r0 T.cells ∧ v1 = .int .i64 T.hidden ∧ v2 = .int .i64 T.total
/-- the same, the fields in ranges that follow one another -/
def PlL (lo hi : Nat) (w : World) (v : Value) (T : Pl) : Prop := ∃ (v0 v1 v2 : Value) (r0 : List Value) (m0 m1 : Nat), v = .agg #[v0, v1, v2] ∧ lo ≤ m0 ∧ m0 ≤ m1 ∧ m1 ≤ hi ∧ OwnG m0 m1 w v0 r0 T.cells ∧ v1 = .int .i64 T.hidden ∧ v2 = .int .i64 T.total
/-- the value v reads as T, each field in blocks numbered from lo on and below hi -/
def PlN (lo hi : Nat) (w : World) (v : Value) (T : Pl) : Prop := ∃ (v0 v1 v2 : Value) (r0 : List Value), v = .agg #[v0, v1, v2] ∧ OwnG lo hi w v0 r0 T.cells ∧ v1 = .int .i64 T.hidden ∧ v2 = .int .i64 T.total
theorem PlL.o {lo hi : Nat} {w : World} {v : Value} {T : Pl} (h : PlL lo hi w v T) : PlO lo hi w v T := by
  obtain ⟨v0, v1, v2, r0, m0, m1, rfl, l0, l1, l9, o0, z1, z2⟩ := h
  exact ⟨v0, v1, v2, r0, rfl, o0.mono (by omega) (by omega), z1, z2⟩
theorem PlO.read {lo hi : Nat} {w : World} {v : Value} {T : Pl} (h : PlO lo hi w v T) : PlR w v T := by
  obtain ⟨v0, v1, v2, r0, rfl, o0, z1, z2⟩ := h
  exact ⟨v0, v1, v2, rfl, o0.grid, z1, z2⟩
theorem PlO.ext {lo hi : Nat} {w w' : World} {v : Value} {T : Pl} (h : PlO lo hi w v T) (u : Ext w w') : PlO lo hi w' v T := by
  obtain ⟨v0, v1, v2, r0, rfl, o0, z1, z2⟩ := h
  exact ⟨v0, v1, v2, r0, rfl, o0.ext u, z1, z2⟩
theorem PlO.away {S : Nat → Prop} {lo hi : Nat} {w w' : World} {v : Value} {T : Pl} (h : PlO lo hi w v T) (u : Upd S w w') (hs : ∀ b, S b → b < lo ∨ hi ≤ b) : PlO lo hi w' v T := by
  obtain ⟨v0, v1, v2, r0, rfl, o0, z1, z2⟩ := h
  exact ⟨v0, v1, v2, r0, rfl, o0.away u hs, z1, z2⟩
theorem PlO.mono {lo hi lo' hi' : Nat} {w : World} {v : Value} {T : Pl} (h : PlO lo hi w v T) (h1 : lo' ≤ lo) (h2 : hi ≤ hi') : PlO lo' hi' w v T := by
  obtain ⟨v0, v1, v2, r0, rfl, o0, z1, z2⟩ := h
  exact ⟨v0, v1, v2, r0, rfl, o0.mono h1 h2, z1, z2⟩
theorem PlN.read {lo hi : Nat} {w : World} {v : Value} {T : Pl} (h : PlN lo hi w v T) : PlR w v T := by
  obtain ⟨v0, v1, v2, r0, rfl, o0, z1, z2⟩ := h
  exact ⟨v0, v1, v2, rfl, o0.grid, z1, z2⟩
theorem PlN.ext {lo hi : Nat} {w w' : World} {v : Value} {T : Pl} (h : PlN lo hi w v T) (u : Ext w w') : PlN lo hi w' v T := by
  obtain ⟨v0, v1, v2, r0, rfl, o0, z1, z2⟩ := h
  exact ⟨v0, v1, v2, r0, rfl, o0.ext u, z1, z2⟩
theorem PlN.away {S : Nat → Prop} {lo hi : Nat} {w w' : World} {v : Value} {T : Pl} (h : PlN lo hi w v T) (u : Upd S w w') (hs : ∀ b, S b → b < lo ∨ hi ≤ b) : PlN lo hi w' v T := by
  obtain ⟨v0, v1, v2, r0, rfl, o0, z1, z2⟩ := h
  exact ⟨v0, v1, v2, r0, rfl, o0.away u hs, z1, z2⟩
theorem PlN.mono {lo hi lo' hi' : Nat} {w : World} {v : Value} {T : Pl} (h : PlN lo hi w v T) (h1 : lo' ≤ lo) (h2 : hi ≤ hi') : PlN lo' hi' w v T := by
  obtain ⟨v0, v1, v2, r0, rfl, o0, z1, z2⟩ := h
  exact ⟨v0, v1, v2, r0, rfl, o0.mono h1 h2, z1, z2⟩

set_option maxHeartbeats 1600000 in
theorem szPlan_c (v : Value) (T : Pl) (left : Int) (w : World) (h : PlR w v T) (h0 : 0 ≤ left ∧ left ≤ 1048576) :
    Calls Try.prog 27 #[v, .int .i64 left] w fun e w' => ∃ r, e = .returned (.int .i64 r) ∧ (r < 0 ∨ (0 ≤ r ∧ r ≤ left ∧ PlSmall T)) ∧ Ext w w' := by
  have H := Lib.hid h
  obtain ⟨a0, c0, rfl, n0⟩ := h.form
  clear h
  have u0 := (Ext.refl w).alloc (.cells #[.slice a0 T.cells.length c0, .int .i64 T.hidden, .int .i64 T.total] 43)
  have b0 := Box.new w 43 #[.slice a0 T.cells.length c0, .int .i64 T.hidden, .int .i64 T.total] rfl
  have c0_0 := b0.cell 0 (by simp)
  have c0_1 := b0.cell 1 (by simp)
  have c0_2 := b0.cell 2 (by simp)
  obtain ⟨t0, ht0⟩ : ∃ t, szG left T.cells = t := ⟨_, rfl⟩
  have y0 : 0 ≤ t0 → Small T.cells := fun hh => Small.of_szG (left := left) (by omega) (by rw [ht0]; exact hh)
  have z0 : 0 ≤ t0 → t0 ≤ left := fun hh => by have := szG_range (left := left) (xss := T.cells) (by rw [ht0]; exact hh); rw [ht0] at this; exact this
  have Y0 := Lib.hid y0; clear y0
  have Z0 := Lib.hid z0; clear z0
  have HT0 := Lib.hid ht0; clear ht0
  by_cases hz0 : t0 < 0
  · go_enter Try.func27, Try.ntmps27
    go_wp2_with fail
    refine (szIntSS_c _ T.cells left _ (H.out.f0.ext u0) (by omega)).mono ?_
    rw [HT0.out]
    rintro e w' ⟨rfl, rfl⟩
    go_wp2
    go_ret
    exact ⟨_, rfl, .inl (by omega), u0⟩
  have g0 : 0 ≤ t0 ∧ t0 ≤ 1048576 ∧ t0 ≤ left := by have := Z0.out (by omega); omega
  go_enter Try.func27, Try.ntmps27
  go_wp2_with fail
  refine (szIntSS_c _ T.cells left _ (H.out.f0.ext u0) (by omega)).mono ?_
  rw [HT0.out]
  rintro e w' ⟨rfl, rfl⟩
  go_wp2
  go_ret
  exact ⟨_, rfl, .inr ⟨by omega, by omega, Y0.out (by omega)⟩, u0⟩
set_option maxHeartbeats 3200000 in
theorem toPlan_c (v : Value) (T : Pl) (w : World) (h : PlR w v T) (s : PlSmall T) :
    Calls Try.prog 29 #[v] w fun e w' => ∃ v', e = .returned v' ∧ PlO w.heap.size w'.heap.size w' v' T ∧ Ext w w' := by
  have H := Lib.hid h
  obtain ⟨a0, c0, rfl, _⟩ := h.form
  clear h
  have HS := Lib.hid s; clear s
  have v0 := (((Ext.refl w).alloc (.cells #[.slice a0 T.cells.length c0, .int .i64 T.hidden, .int .i64 T.total] 43)).alloc (.cells #[.slice none 0 0, .int .i64 0, .int .i64 0] 47)).alloc (.cells #[.slice none 0 0, .int .i64 0, .int .i64 0] 47)
  have ba0 := ((Box.new w 43 #[.slice a0 T.cells.length c0, .int .i64 T.hidden, .int .i64 T.total] rfl).alloc (.cells #[.slice none 0 0, .int .i64 0, .int .i64 0] 47)).alloc (.cells #[.slice none 0 0, .int .i64 0, .int .i64 0] 47)
  have br0 := (Box.new (w.alloc (.cells #[.slice a0 T.cells.length c0, .int .i64 T.hidden, .int .i64 T.total] 43)) 47 #[.slice none 0 0, .int .i64 0, .int .i64 0] (b := w.heap.size + 1) (by simp)).alloc (.cells #[.slice none 0 0, .int .i64 0, .int .i64 0] 47)
  have bo0 := Box.new ((w.alloc (.cells #[.slice a0 T.cells.length c0, .int .i64 T.hidden, .int .i64 T.total] 43)).alloc (.cells #[.slice none 0 0, .int .i64 0, .int .i64 0] 47)) 47 #[.slice none 0 0, .int .i64 0, .int .i64 0] (b := w.heap.size + 2) (by simp)
  have ca0_0 := ba0.cell 0 (by simp)
  have ca0_1 := ba0.cell 1 (by simp)
  have ca0_2 := ba0.cell 2 (by simp)
  have co0 := bo0.cell 0 (by simp)
  have fo0 := bo0.free 0
  go_enter Try.func29, Try.ntmps29
  have sz0 : (((w.alloc (.cells #[.slice a0 T.cells.length c0, .int .i64 T.hidden, .int .i64 T.total] 43)).alloc (.cells #[.slice none 0 0, .int .i64 0, .int .i64 0] 47)).alloc (.cells #[.slice none 0 0, .int .i64 0, .int .i64 0] 47)).heap.size = w.heap.size + 3 := by simp
  have SZ0 := Lib.hid sz0; clear sz0
  go_wp2_with fail
  refine (toIntSS_c _ T.cells _ (H.out.f0.ext v0) HS.out.len HS.out.row).mono ?_
  rintro e w1 ⟨x1, rr0, rfl, o1, u1⟩
  have O0_1 := Lib.hid o1
  obtain ⟨a1_, cp1, rfl, _, _, qq1⟩ := o1
  clear qq1
  have SZ1 : Hid ((((w.alloc (.cells #[.slice a0 T.cells.length c0, .int .i64 T.hidden, .int .i64 T.total] 43)).alloc (.cells #[.slice none 0 0, .int .i64 0, .int .i64 0] 47)).alloc (.cells #[.slice none 0 0, .int .i64 0, .int .i64 0] 47)).heap.size ≤ w1.heap.size) := Lib.hid u1.size
  have SS1 : Hid ((w1.setCell ⟨w.heap.size + 2, 0, none⟩ (.slice a1_ T.cells.length cp1)).heap.size = w1.heap.size) := Lib.hid (by simp [World.setCell])
  have ba1 : Box (w1.setCell ⟨w.heap.size + 2, 0, none⟩ (.slice a1_ T.cells.length cp1)) w.heap.size 43 #[.slice a0 T.cells.length c0, .int .i64 T.hidden, .int .i64 T.total] := (ba0.ext u1).setOther (by simp) _
  have br1 : Box (w1.setCell ⟨w.heap.size + 2, 0, none⟩ (.slice a1_ T.cells.length cp1)) (w.heap.size + 1) 47 #[.slice none 0 0, .int .i64 0, .int .i64 0] := (br0.ext u1).setOther (by simp) _
  have bp1 := bo0.ext u1
  have cp1_ := bp1.cell 0 (by simp)
  have fp1_ := bp1.free 0
  have bo1 : Box (w1.setCell ⟨w.heap.size + 2, 0, none⟩ (.slice a1_ T.cells.length cp1)) (w.heap.size + 2) 47 #[.slice a1_ T.cells.length cp1, .int .i64 0, .int .i64 0] := bp1.set 0 _
  have v1 : Ext w (w1.setCell ⟨w.heap.size + 2, 0, none⟩ (.slice a1_ T.cells.length cp1)) := (v0.trans u1).setCell _ (by simp)
  have O0_1s := Lib.hid (O0_1.out.put_away ⟨w.heap.size + 2, 0, none⟩ (.slice a1_ T.cells.length cp1) (.inl (by simp only; have := SZ0.out; have := SZ1.out; have := SS1.out; omega)))
  clear O0_1
  have O0_1 := O0_1s; clear O0_1s
  have ca1_0 := ba1.cell 0 (by simp)
  have ca1_1 := ba1.cell 1 (by simp)
  have ca1_2 := ba1.cell 2 (by simp)
  have co1 := bo1.cell 1 (by simp)
  have fo1 := bo1.free 1
  have SS2 : Hid (((w1.setCell ⟨w.heap.size + 2, 0, none⟩ (.slice a1_ T.cells.length cp1)).setCell ⟨w.heap.size + 2, 1, none⟩ (.int .i64 T.hidden)).heap.size = (w1.setCell ⟨w.heap.size + 2, 0, none⟩ (.slice a1_ T.cells.length cp1)).heap.size) := Lib.hid (by simp [World.setCell])
  have ba2 : Box ((w1.setCell ⟨w.heap.size + 2, 0, none⟩ (.slice a1_ T.cells.length cp1)).setCell ⟨w.heap.size + 2, 1, none⟩ (.int .i64 T.hidden)) w.heap.size 43 #[.slice a0 T.cells.length c0, .int .i64 T.hidden, .int .i64 T.total] := ba1.setOther (by simp) _
  have br2 : Box ((w1.setCell ⟨w.heap.size + 2, 0, none⟩ (.slice a1_ T.cells.length cp1)).setCell ⟨w.heap.size + 2, 1, none⟩ (.int .i64 T.hidden)) (w.heap.size + 1) 47 #[.slice none 0 0, .int .i64 0, .int .i64 0] := br1.setOther (by simp) _
  have bo2 : Box ((w1.setCell ⟨w.heap.size + 2, 0, none⟩ (.slice a1_ T.cells.length cp1)).setCell ⟨w.heap.size + 2, 1, none⟩ (.int .i64 T.hidden)) (w.heap.size + 2) 47 #[.slice a1_ T.cells.length cp1, .int .i64 T.hidden, .int .i64 0] := bo1.set 1 _
  have v2 : Ext w ((w1.setCell ⟨w.heap.size + 2, 0, none⟩ (.slice a1_ T.cells.length cp1)).setCell ⟨w.heap.size + 2, 1, none⟩ (.int .i64 T.hidden)) := v1.setCell _ (by simp)
  have O0_2 := Lib.hid (O0_1.out.put_away ⟨w.heap.size + 2, 1, none⟩ (.int .i64 T.hidden) (.inl (by simp only; have := SZ0.out; have := SZ1.out; have := SS1.out; have := SS2.out; omega)))
  have ca2_0 := ba2.cell 0 (by simp)
  have ca2_1 := ba2.cell 1 (by simp)
  have ca2_2 := ba2.cell 2 (by simp)
  have co2 := bo2.cell 2 (by simp)
  have fo2 := bo2.free 2
  have SS3 : Hid ((((w1.setCell ⟨w.heap.size + 2, 0, none⟩ (.slice a1_ T.cells.length cp1)).setCell ⟨w.heap.size + 2, 1, none⟩ (.int .i64 T.hidden)).setCell ⟨w.heap.size + 2, 2, none⟩ (.int .i64 T.total)).heap.size = ((w1.setCell ⟨w.heap.size + 2, 0, none⟩ (.slice a1_ T.cells.length cp1)).setCell ⟨w.heap.size + 2, 1, none⟩ (.int .i64 T.hidden)).heap.size) := Lib.hid (by simp [World.setCell])
  have br3 : Box (((w1.setCell ⟨w.heap.size + 2, 0, none⟩ (.slice a1_ T.cells.length cp1)).setCell ⟨w.heap.size + 2, 1, none⟩ (.int .i64 T.hidden)).setCell ⟨w.heap.size + 2, 2, none⟩ (.int .i64 T.total)) (w.heap.size + 1) 47 #[.slice none 0 0, .int .i64 0, .int .i64 0] := br2.setOther (by simp) _
  have bo3 : Box (((w1.setCell ⟨w.heap.size + 2, 0, none⟩ (.slice a1_ T.cells.length cp1)).setCell ⟨w.heap.size + 2, 1, none⟩ (.int .i64 T.hidden)).setCell ⟨w.heap.size + 2, 2, none⟩ (.int .i64 T.total)) (w.heap.size + 2) 47 #[.slice a1_ T.cells.length cp1, .int .i64 T.hidden, .int .i64 T.total] := bo2.set 2 _
  have v3 : Ext w (((w1.setCell ⟨w.heap.size + 2, 0, none⟩ (.slice a1_ T.cells.length cp1)).setCell ⟨w.heap.size + 2, 1, none⟩ (.int .i64 T.hidden)).setCell ⟨w.heap.size + 2, 2, none⟩ (.int .i64 T.total)) := v2.setCell _ (by simp)
  have O0_3 := Lib.hid (O0_2.out.put_away ⟨w.heap.size + 2, 2, none⟩ (.int .i64 T.total) (.inl (by simp only; have := SZ0.out; have := SZ1.out; have := SS1.out; have := SS2.out; have := SS3.out; omega)))
  have cf0 := bo3.cell 0 (by simp)
  have ff0 := br3.cell 0 (by simp)
  have fg0 := br3.free 0
  have cf1 := bo3.cell 1 (by simp)
  have ff1 := br3.cell 1 (by simp)
  have fg1 := br3.free 1
  have cf2 := bo3.cell 2 (by simp)
  have ff2 := br3.cell 2 (by simp)
  have fg2 := br3.free 2
  go_wp2
  refine bodyPost_ret (v := .agg #[.slice a1_ T.cells.length cp1, .int .i64 T.hidden, .int .i64 T.total]) (by simp [results, Try.results29, go_sem, ff0, ff1, ff2]) rfl ?_
  refine ⟨_, rfl, PlL.o ⟨_, _, _, _, w.heap.size + 3, w1.heap.size, rfl, by omega, (by have := SZ0.out; have := SZ1.out; have := SS1.out; have := SS2.out; have := SS3.out; omega), ?_, ((((O0_3.out.put_away ⟨w.heap.size + 1, 0, none⟩ (.slice a1_ T.cells.length cp1) (.inl (by simp only; have := SZ0.out; have := SZ1.out; have := SS1.out; have := SS2.out; have := SS3.out; omega))).put_away ⟨w.heap.size + 1, 1, none⟩ (.int .i64 T.hidden) (.inl (by simp only; have := SZ0.out; have := SZ1.out; have := SS1.out; have := SS2.out; have := SS3.out; omega))).put_away ⟨w.heap.size + 1, 2, none⟩ (.int .i64 T.total) (.inl (by simp only; have := SZ0.out; have := SZ1.out; have := SS1.out; have := SS2.out; have := SS3.out; omega)))).mono (by have := SZ0.out; have := SZ1.out; have := SS1.out; have := SS2.out; have := SS3.out; omega) (Nat.le_refl _), rfl, rfl⟩, (((v3.setCell _ (by simp)).setCell _ (by simp)).setCell _ (by simp))⟩
  have := SS3.out
  simp [World.setCell]
set_option maxHeartbeats 1600000 in
theorem eqPlan_t (v1 v2 : Value) (T : Pl) (w : World) (h1 : PlR w v1 T) (h2 : PlR w v2 T) :
    Calls Try.prog 31 #[v1, v2] w fun e w' => e = .returned (.bool true) ∧ Ext w w' := by
  have H1 := Lib.hid h1
  have H2 := Lib.hid h2
  obtain ⟨a0, c0, rfl, _⟩ := h1.form
  obtain ⟨d0, e0, rfl, _⟩ := h2.form
  clear h1 h2
  have v0 := ((Ext.refl w).alloc (.cells #[.slice a0 T.cells.length c0, .int .i64 T.hidden, .int .i64 T.total] 47)).alloc (.cells #[.slice d0 T.cells.length e0, .int .i64 T.hidden, .int .i64 T.total] 47)
  have b1_0 := (Box.new w 47 #[.slice a0 T.cells.length c0, .int .i64 T.hidden, .int .i64 T.total] rfl).alloc (.cells #[.slice d0 T.cells.length e0, .int .i64 T.hidden, .int .i64 T.total] 47)
  have b2_0 := Box.new (w.alloc (.cells #[.slice a0 T.cells.length c0, .int .i64 T.hidden, .int .i64 T.total] 47)) 47 #[.slice d0 T.cells.length e0, .int .i64 T.hidden, .int .i64 T.total] (b := w.heap.size + 1) (by simp)
  have qi1 : (T.hidden != T.hidden) = false := by simp
  have qi2 : (T.total != T.total) = false := by simp
  go_enter Try.func31, Try.ntmps31
  have k1_0_0 := b1_0.cell 0 (by simp)
  have k2_0_0 := b2_0.cell 0 (by simp)
  have k1_0_1 := b1_0.cell 1 (by simp)
  have k2_0_1 := b2_0.cell 1 (by simp)
  have k1_0_2 := b1_0.cell 2 (by simp)
  have k2_0_2 := b2_0.cell 2 (by simp)
  go_wp2_with fail
  refine (eqIntSS_b true _ _ T.cells T.cells _ (by simp) (H1.out.f0.ext v0) (H2.out.f0.ext v0)).mono ?_
  rintro e w1 ⟨rfl, d1_⟩
  have u1 := Drew.ext d1_
  have v1 := v0.trans u1
  have b1_1 := b1_0.ext u1
  have b2_1 := b2_0.ext u1
  have k1_1_0 := b1_1.cell 0 (by simp)
  have k2_1_0 := b2_1.cell 0 (by simp)
  have k1_1_1 := b1_1.cell 1 (by simp)
  have k2_1_1 := b2_1.cell 1 (by simp)
  have k1_1_2 := b1_1.cell 2 (by simp)
  have k2_1_2 := b2_1.cell 2 (by simp)
  go_wp2
  go_ret
  exact ⟨rfl, v1⟩
def PlSize (T : Pl) : Int := (psum T.cells T.cells.length : Int)
theorem PlSmall.size {T : Pl} (h : PlSmall T) : 0 ≤ PlSize T ∧ PlSize T ≤ 1048576 := by
  have h0 : PlSmall T := h
  unfold PlSmall at h0
  have := h0.psum T.cells.length (Nat.le_refl _)
  unfold PlSize; omega
/-- T', of the shape of T, is marked from k0 on -/
def PlMarked (k0 : Int) (T T' : Pl) : Prop := MarkedG (k0) T.cells T'.cells
end Go.Proofs.Ytginndoggpfadaa
