/- Plans: what they add, whether they do what they say. -/
import Derived.Test.YtodnkahnbidgaaaPub
import Derived.Test.YtodnkahnbidgaaaSums
import Derived.BigRegion
import Derived.Test.YtodnkahnbidgaaaSec2
import Derived.Deep.RegionHeld3
import Derived.Test.YtodnkahnbidgaaaSep
namespace Go.Proofs.Ytodnkahnbidgaaa
open Go.RowKit

/-- q is of the shape of p, and small -/
structure Like (p q : List (List Int)) : Prop where
  n1 : 1 ≤ q.length
  n8 : q.length ≤ 8
  len : q.length = p.length
  row : ∀ k, k < p.length → (rowAt q k).length = (rowAt p k).length ∧ 1 ≤ (rowAt q k).length ∧ (rowAt q k).length ≤ 8
  eq : ∀ k, k < p.length → (rowAt p k).length = (rowAt p 0).length
theorem like_of {x p q : List (List Int)} (h1 : pubB x p = true) (h2 : pubB x q = true) : Like p q := by
  have a := pubB_shape h1
  have b := pubB_shape h2
  have g := gridB_true.1 a.1
  refine ⟨by omega, by omega, by omega, fun k hk => ?_, fun k hk => ?_⟩
  · have a1 := a.2.2.2.2 k (by omega)
    have b1 := b.2.2.2.2 k (by omega)
    omega
  · have a1 := a.2.2.2.2 k (by omega)
    have a0 := a.2.2.2.2 0 (by omega)
    have := (g.2.2.2.2 k (by omega)).1
    omega
open Classical in
noncomputable def aloneB (p q : List (List Int)) : Bool := decide (∃ i j, i < q.length ∧ j < (rowAt q i).length ∧ ix (rowAt q i) j = 1 ∧ ((rowAt p i).sum = 1 ∨ (colOf p j).sum = 1))
open Classical in
theorem aloneB_true {p q : List (List Int)} {i j : Nat} (hi : i < q.length) (hj : j < (rowAt q i).length) (h : ix (rowAt q i) j = 1) (h0 : (rowAt p i).sum = 1 ∨ (colOf p j).sum = 1) : aloneB p q = true := by
  unfold aloneB; exact decide_eq_true ⟨i, j, hi, hj, h, h0⟩
open Classical in
theorem aloneB_false {p q : List (List Int)} (h : ∀ i j, i < q.length → j < (rowAt q i).length → ix (rowAt q i) j = 1 → ¬ ((rowAt p i).sum = 1 ∨ (colOf p j).sum = 1)) : aloneB p q = false := by
  unfold aloneB; exact decide_eq_false (by rintro ⟨i, j, a, b, c, d⟩; exact h i j a b c d)
theorem pat_tame {x p : List (List Int)} (h : pubB x p = true) : Tame p := by
  have g := pubB_shape h
  simp only [pubB, patB, Bool.and_eq_true] at h
  have g2 := gridB_true.1 h.2.1
  refine ⟨by omega, fun i hi => ⟨by have := (g2.2.2.2.2 i hi).1; omega, fun j hj => ?_⟩⟩
  have := gridB_elem h.2.1 hi hj
  omega

set_option maxHeartbeats 3200000 in
theorem vAlone_c (v1 v2 : Value) (p q : List (List Int)) (w : World) (h1 : Grid w v1 p) (h2 : Grid w v2 q) (hk : Like p q) (ht : Tame p) :
    Calls Try.prog 88 #[v1, v2] w fun e w' => e = .returned (.bool (aloneB p q)) ∧ Ext w w' := by
  have H1 := Lib.hid h1
  obtain ⟨a1, c1, rfl, e1, e2, g1⟩ := h1
  have G1 := Lib.hid g1; clear g1
  obtain ⟨a2, c2, rfl, e3, e4, g2⟩ := h2
  have G2 := Lib.hid g2; clear g2
  have HT := Lib.hid ht; clear ht
  have HK := Lib.hid hk; clear hk
  go_enter Try.func88, Try.ntmps88
  go_wp2
  go_loopw [11] (fun i wr => ∃ k : Nat, k ≤ q.length ∧ i = .int .i64 k ∧ (∀ i j, i < k → j < (rowAt q i).length → ix (rowAt q i) j = 1 → ¬ ((rowAt p i).sum = 1 ∨ (colOf p j).sum = 1)) ∧ Ext w wr) (fun i _ => q.length - (intOf i).toNat)
  case atStart => exact ⟨0, Nat.zero_le _, rfl, fun i j hi => by omega, Ext.refl w⟩
  case round =>
    obtain ⟨k, hk, rfl, hj, hx⟩ := hrel
    have HJ := Lib.hid hj; clear hj
    by_cases hlt : k < q.length
    · obtain ⟨b, o, ar, cr, rfl, hc0, r1, r2, r3⟩ := G2.out.at_ hlt
      have hc := Ext.cell hx hc0
      have R3 := Lib.hid r3; clear r3
      have hltp : k < p.length := by have := HK.out.len; omega
      obtain ⟨b2, o2, ar2, cr2, rfl, hc20, s1, s2, s3⟩ := G1.out.at_ hltp
      have S3 := Lib.hid s3; clear s3
      go_wp2
      go_loopw [18] (fun i wr => ∃ l : Nat, l ≤ (rowAt q k).length ∧ i = .int .i64 l ∧ (∀ j, j < l → ix (rowAt q k) j = 1 → ¬ ((rowAt p k).sum = 1 ∨ (colOf p j).sum = 1)) ∧ Ext w wr) (fun i _ => (rowAt q k).length - (intOf i).toNat)
      case atStart => exact ⟨0, Nat.zero_le _, rfl, fun j hj => by omega, hx⟩
      case round =>
        obtain ⟨l, hl, rfl, hj2, hx2⟩ := hrel
        have HJ2 := Lib.hid hj2; clear hj2
        obtain ⟨wi, rfl⟩ : ∃ wi : World, wi = wr := ⟨_, rfl⟩
        by_cases hl2 : l < (rowAt q k).length
        · obtain ⟨b3, o3, rfl, hc30⟩ := R3.out l hl2
          have hc3 := Ext.cell hx2 hc30
          have hc2 := Ext.cell hx2 hc20
          have hcols : ∀ i, i < p.length → l < (rowAt p i).length := fun i hi => by
            have a0 := HK.out.eq i hi
            have a1 := HK.out.eq k hltp
            have a2 := HK.out.row k hltp
            omega
          have SC := Lib.hid (sumOk_of (HT.out.col hcols))
          have SR := Lib.hid (sumOk_of (HT.out.row hltp))
          have HC := Lib.hid hcols; clear hcols
          by_cases hone : ix (rowAt q k) l = 1
          · have hq1 : (ix (rowAt q k) l == 1) = true := by simp [hone]
            obtain ⟨RS, hRS⟩ : ∃ S, (rowAt p k).sum = S := ⟨_, rfl⟩
            obtain ⟨CS, hCS⟩ : ∃ S, (colOf p l).sum = S := ⟨_, rfl⟩
            by_cases hz : RS = 1
            · have hq0 : (RS == 1) = true := by simp [hz]
              have HB := Lib.hid (aloneB_true (p := p) (q := q) hlt hl2 hone (.inl (hRS.trans hz))); clear hz hone
              have HRS := Lib.hid hRS; clear hRS
              go_wp2_with fail
              refine (tSum_c _ (rowAt p k) _ (Ints.ext (⟨ar2, cr2, rfl, s1, s2, S3.out⟩ : Ints w _ _) hx2) SR.out).mono ?_
              rw [HRS.out]
              rintro e wi ⟨rfl, rfl⟩
              go_wp2
              go_ret
              rw [HB.out]
              exact ⟨rfl, hx2⟩
            · have hq0 : (RS == 1) = false := by simp [hz]
              have HZ := Lib.hid hz; clear hz
              have HRS := Lib.hid hRS; clear hRS
              have HCS := Lib.hid hCS; clear hCS
              have HO := Lib.hid hone; clear hone
              by_cases hz2 : CS = 1
              · have hq2 : (CS == 1) = true := by simp [hz2]
                have HB := Lib.hid (aloneB_true (p := p) (q := q) hlt hl2 HO.out (.inr (HCS.out.trans hz2))); clear hz2
                go_wp2_with fail
                refine (tSum_c _ (rowAt p k) _ (Ints.ext (⟨ar2, cr2, rfl, s1, s2, S3.out⟩ : Ints w _ _) hx2) SR.out).mono ?_
                rw [HRS.out]
                rintro e wi ⟨rfl, rfl⟩
                go_wp2_with fail
                refine (tColumn_c _ p l _ (H1.out.ext hx2) (by have := HK.out.len; have := HK.out.n8; omega) HC.out).mono ?_
                rintro e w4 ⟨v4, rfl, o4, u4⟩
                go_wp2_with fail
                refine (tSum_c _ (colOf p l) _ o4.ints SC.out).mono ?_
                rw [HCS.out]
                rintro e w4 ⟨rfl, rfl⟩
                go_wp2
                go_ret
                rw [HB.out]
                exact ⟨rfl, hx2.trans u4⟩
              · have hq2 : (CS == 1) = false := by simp [hz2]
                have HZ2 := Lib.hid hz2; clear hz2
                go_wp2_with fail
                refine (tSum_c _ (rowAt p k) _ (Ints.ext (⟨ar2, cr2, rfl, s1, s2, S3.out⟩ : Ints w _ _) hx2) SR.out).mono ?_
                rw [HRS.out]
                rintro e wi ⟨rfl, rfl⟩
                go_wp2_with fail
                refine (tColumn_c _ p l _ (H1.out.ext hx2) (by have := HK.out.len; have := HK.out.n8; omega) HC.out).mono ?_
                rintro e w4 ⟨v4, rfl, o4, u4⟩
                go_wp2_with fail
                refine (tSum_c _ (colOf p l) _ o4.ints SC.out).mono ?_
                rw [HCS.out]
                rintro e w4 ⟨rfl, rfl⟩
                clear o4
                go_wp2
                go_roundw
                case rel => exact ⟨l + 1, by omega, by go_num, fun j hj h1 => by
                  by_cases e : j = l
                  · subst e; rw [HRS.out, HCS.out]; rintro (h | h); exact HZ.out h; exact HZ2.out h
                  · exact HJ2.out j (by omega) h1, hx2.trans u4⟩
                case measure => simp [intOf]; omega
          · have hq1 : (ix (rowAt q k) l == 1) = false := by simp [hone]
            have HO := Lib.hid hone; clear hone
            go_wp2
            go_roundw
            case rel => exact ⟨l + 1, by omega, by go_num, fun j hj h1 => by
              by_cases e : j = l
              · subst e; exact absurd h1 HO.out
              · exact HJ2.out j (by omega) h1, hx2⟩
            case measure => simp [intOf]; omega
        · go_wp2
          go_roundw
          case rel => exact ⟨k + 1, by omega, by go_num, fun i j hi hj h1 => by
            by_cases e : i = k
            · subst e; exact HJ2.out j (by omega) h1
            · exact HJ.out i j (by omega) hj h1, hx2⟩
          case measure => simp [intOf]; omega
    · have HB := Lib.hid (aloneB_false (p := p) (q := q) (fun i j hi hj h1 => HJ.out i j (by omega) hj h1))
      go_wp2
      go_ret
      rw [HB.out]
      exact ⟨rfl, hx⟩
end Go.Proofs.Ytodnkahnbidgaaa
namespace Go.Proofs.Ytodnkahnbidgaaa
open Go.RowKit
open Fm

open Classical in
/-- all cells that S hides are protected under P -/
noncomputable def safeB (x P S : List (List Int)) (down up : Int) : Bool := decide (∀ i j, i < S.length → j < (rowAt S i).length → elOf S i j = 1 → protB x P i j down up = true)
theorem safeB_true {x P S : List (List Int)} {down up : Int} : safeB x P S down up = true ↔ ∀ i j, i < S.length → j < (rowAt S i).length → elOf S i j = 1 → protB x P i j down up = true := by simp [safeB]
theorem safeB_not {x P S : List (List Int)} {down up : Int} {i j : Nat} (hi : i < S.length) (hj : j < (rowAt S i).length) (h1 : elOf S i j = 1) (h0 : protB x P i j down up = false) : safeB x P S down up = false := by
  rw [← Bool.not_eq_true, safeB_true]; intro h; rw [h i j hi hj h1] at h0; exact absurd h0 (by simp)
/-- no cell is open -/
theorem safeB_open (x P S : List (List Int)) (down up : Int) : safeB x P S down up = decide ((cellsL (openF x P down up) S).length = 0) := by
  cases h : safeB x P S down up
  · symm
    rw [decide_eq_false_iff_not]
    intro h0
    rw [← Bool.not_eq_true, safeB_true] at h
    apply h
    intro i j hi hj h1
    cases hp : protB x P i j down up
    · obtain ⟨t, ht, _⟩ := cellsL_mem (f := openF x P down up) hi hj (by simp [openF, h1, hp])
      omega
    · rfl
  · symm
    rw [decide_eq_true_eq]
    apply Nat.eq_zero_of_not_pos
    intro hpos
    obtain ⟨i, j, hi, hj, hf, _⟩ := cellsL_row (f := openF x P down up) (p := S) hpos
    simp only [openF, Bool.and_eq_true, decide_eq_true_eq] at hf
    rw [safeB_true.1 h i j hi hj hf.1] at hf
    simp at hf

set_option maxRecDepth 100000 in
set_option maxHeartbeats 3200000 in
theorem vSafe_b (b : Bool) (x P S : List (List Int)) (v1 v2 v3 : Value) (down up : Int) (w : World) (hb : safeB x P S down up = b) (hin : inpB x P S = true) (hl : levB down up = true) (h1 : Grid w v1 x) (h2 : Grid w v2 P) (h3 : Grid w v3 S) :
    Calls Try.prog 53 #[v1, v2, v3, .int .i64 down, .int .i64 up] w fun e w' => e = .returned (.bool b) ∧ Ext w w' := by
  subst hb
  have H1 := Lib.hid h1
  have H2 := Lib.hid h2
  have H3 := Lib.hid h3
  obtain ⟨ax, cx, rfl, x1, x2, x3⟩ := h1
  clear x3
  obtain ⟨ap, cp, rfl, p1, p2, p3⟩ := h2
  clear p3
  obtain ⟨as_, cs, rfl, s1, s2, s3⟩ := h3
  have G := Lib.hid s3; clear s3
  obtain ⟨hp, hs, hc⟩ := inpB_true hin
  have hle : (0 ≤ down ∧ down ≤ 1000) ∧ 0 ≤ up ∧ up ≤ 1000 := by simpa only [levB, Bool.and_eq_true, decide_eq_true_eq] using hl
  obtain ⟨⟨l1, l2⟩, l3, l4⟩ := hle
  have hd := atk_dims hp
  have HLK := Lib.hid (like_of hp hs)
  have HRP := Lib.hid (pat_rc hp)
  have HRS := Lib.hid (pat_rc hs)
  have HIN := Lib.hid hin; clear hin
  have HP := Lib.hid hp; clear hp hs hc
  have HLV := Lib.hid hl; clear hl
  obtain ⟨n, hn⟩ : ∃ n, x.length = n := ⟨_, rfl⟩
  obtain ⟨m, hm⟩ : ∃ m, (rowAt x 0).length = m := ⟨_, rfl⟩
  rw [hn] at HRP HRS hd x1 H1
  rw [hm] at HRP HRS hd
  have hpl := HRP.out.len
  have hsl := HRS.out.len
  rw [hpl] at p1 H2
  rw [hsl] at s1 H3
  rw [hn, hpl, hsl]
  have HPL := Lib.hid hpl; clear hpl
  have HSL := Lib.hid hsl; clear hsl
  have HN := Lib.hid hn; clear hn
  have HM := Lib.hid hm; clear hm
  obtain ⟨d1, d2, d3, d4⟩ := hd
  have HTM : Hid (Tame P) := Lib.hid (pat_tame HP.out)
  by_cases hA : 0 < down + up ∧ aloneB P S = true
  · have HA := Lib.hid hA.2
    have hpos := hA.1
    have HSO := Lib.hid (safeB_open x P S down up)
    obtain ⟨F, hF⟩ : ∃ F, cellsL (openF x P down up) S = F := ⟨_, rfl⟩
    rw [hF] at HSO
    rw [HSO.out]
    obtain ⟨N, hN⟩ : ∃ N, F.length = N := ⟨_, rfl⟩
    have HF := Lib.hid hF; clear hF
    have HNN := Lib.hid hN; clear hN
    go_enter Try.func53, Try.ntmps53
    go_wp2_with fail
    refine (vAlone_c _ _ P S _ H2.out H3.out HLK.out HTM.out).mono ?_
    rw [HA.out]
    rintro e wS ⟨rfl, uS⟩
    go_wp2_with fail
    refine (vOpen_c x P S _ _ _ down up _ HIN.out HLV.out (H1.out.ext uS) (H2.out.ext uS) (H3.out.ext uS)).mono ?_
    rw [HF.out]
    rintro e w3 ⟨x3, r3, rfl, o3, u3⟩
    obtain ⟨e3, g3, rfl, _, _, qq⟩ := o3
    clear qq
    rw [HNN.out]
    go_wp2
    go_ret
    exact ⟨by rw [HNN.out]; by_cases h : N = 0 <;> simp [h], uS.trans u3⟩
  by_cases hpos : 0 < down + up
  · have ha : aloneB P S = false := by cases h : aloneB P S; rfl; exact absurd ⟨hpos, h⟩ hA
    have HA := Lib.hid ha; clear ha hA
    go_enter Try.func53, Try.ntmps53
    go_wp2_with fail
    refine (vAlone_c _ _ P S _ H2.out H3.out HLK.out HTM.out).mono ?_
    rw [HA.out]
    rintro e wS ⟨rfl, uS⟩
    go_wp2
    go_loopw [34] (fun i wr => ∃ k : Nat, k ≤ n ∧ i = .int .i64 k ∧ (∀ a c, a < k → c < m → elOf S a c = 1 → protB x P a c down up = true) ∧ Ext w wr) (fun i _ => n - (intOf i).toNat)
    case atStart => exact ⟨0, Nat.zero_le _, rfl, (fun a c h => by omega), uS⟩
    case round =>
      obtain ⟨k, hk, rfl, hj, hx⟩ := hrel
      obtain ⟨wo, rfl⟩ : ∃ wo : World, wo = wr := ⟨_, rfl⟩
      have HJ := Lib.hid hj; clear hj
      by_cases hlt : k < n
      · obtain ⟨b, o, ar, cr, rfl, hc0, r1, r2, r3⟩ := G.out.at_ (k := k) (by rw [HSL.out]; exact hlt)
        have hc := Ext.cell hx hc0
        rw [HRS.out.row k hlt] at hc r1
        have R3 := Lib.hid r3; clear r3 hc0
        go_wp2
        go_loopw [41] (fun i wr => ∃ l : Nat, l ≤ m ∧ i = .int .i64 l ∧ (∀ c, c < l → elOf S k c = 1 → protB x P k c down up = true) ∧ Ext w wr) (fun i _ => m - (intOf i).toNat)
        case atStart => exact ⟨0, Nat.zero_le _, rfl, (fun c h => by omega), hx⟩
        case round =>
          clear hc hx
          obtain ⟨l, hl', rfl, hj2, hx⟩ := hrel
          obtain ⟨wi, rfl⟩ : ∃ wi : World, wi = wr := ⟨_, rfl⟩
          have HJ2 := Lib.hid hj2; clear hj2
          by_cases hl2 : l < m
          · obtain ⟨b5, o5, rfl, hx5⟩ := R3.out l (by rw [HRS.out.row k hlt]; exact hl2)
            have e5 := Ext.cell hx hx5
            have q5 : ix (rowAt S k) l = elOf S k l := rfl
            rw [q5] at e5
            clear q5 hx5
            by_cases hone : elOf S k l = 1
            · have HP1 := Lib.hid (inp_one HIN.out (i := k) (j := l) (by rw [HN.out]; exact hlt) (by rw [HM.out]; exact hl2) hone)
              cases hpr : protB x P k l down up
              · have HB := Lib.hid (safeB_not (x := x) (P := P) (S := S) (i := k) (j := l) (by rw [HSL.out]; exact hlt) (by rw [HRS.out.row k hlt]; exact hl2) hone hpr)
                have HPR := Lib.hid hpr; clear hpr
                go_wp2_with fail
                refine (vProtected_b false x P ax ap cx cp n m k l down up _ HN.out HM.out HP.out (H1.out.ext hx) (H2.out.ext hx) hlt hl2 HP1.out HLV.out HPR.out).mono ?_
                rintro e w3 ⟨rfl, u3⟩
                go_wp2
                go_ret
                exact ⟨ret_bool HB.out.symm, hx.trans u3⟩
              · have HPR := Lib.hid hpr; clear hpr
                go_wp2_with fail
                refine (vProtected_b true x P ax ap cx cp n m k l down up _ HN.out HM.out HP.out (H1.out.ext hx) (H2.out.ext hx) hlt hl2 HP1.out HLV.out HPR.out).mono ?_
                rintro e w3 ⟨rfl, u3⟩
                have HZ : Hid (∀ c, c < l + 1 → elOf S k c = 1 → protB x P k c down up = true) := Lib.hid (fun c hc h1 => by
                  by_cases e : c = l
                  · subst e; exact HPR.out
                  · exact HJ2.out c (by omega) h1)
                go_wp2
                go_roundw
                case rel => exact ⟨l + 1, by omega, by go_num, HZ.out, hx.trans u3⟩
                case measure => simp [intOf]; omega
            · have HZ : Hid (∀ c, c < l + 1 → elOf S k c = 1 → protB x P k c down up = true) := Lib.hid (fun c hc h1 => by
                by_cases e : c = l
                · subst e; exact absurd h1 hone
                · exact HJ2.out c (by omega) h1)
              go_wp2
              go_roundw
              case rel => exact ⟨l + 1, by omega, by go_num, HZ.out, hx⟩
              case measure => simp [intOf]; omega
          · have HZ : Hid (∀ a c, a < k + 1 → c < m → elOf S a c = 1 → protB x P a c down up = true) := Lib.hid (fun a c ha hc h1 => by
              by_cases e : a = k
              · subst e; exact HJ2.out c (by omega) h1
              · exact HJ.out a c (by omega) hc h1)
            go_wp2
            go_roundw
            case rel => exact ⟨k + 1, by omega, by go_num, HZ.out, hx⟩
            case measure => simp [intOf]; omega
      · have HB : Hid (safeB x P S down up = true) := Lib.hid (safeB_true.2 (fun i j hi hj h1 => by
          rw [HSL.out] at hi
          rw [HRS.out.row i hi] at hj
          exact HJ.out i j (by omega) hj h1))
        go_wp2
        go_ret
        exact ⟨ret_bool HB.out.symm, hx⟩
  · clear hA
    have uS := Ext.refl w
    go_enter Try.func53, Try.ntmps53
    go_wp2
    go_loopw [34] (fun i wr => ∃ k : Nat, k ≤ n ∧ i = .int .i64 k ∧ (∀ a c, a < k → c < m → elOf S a c = 1 → protB x P a c down up = true) ∧ Ext w wr) (fun i _ => n - (intOf i).toNat)
    case atStart => exact ⟨0, Nat.zero_le _, rfl, (fun a c h => by omega), uS⟩
    case round =>
      obtain ⟨k, hk, rfl, hj, hx⟩ := hrel
      obtain ⟨wo, rfl⟩ : ∃ wo : World, wo = wr := ⟨_, rfl⟩
      have HJ := Lib.hid hj; clear hj
      by_cases hlt : k < n
      · obtain ⟨b, o, ar, cr, rfl, hc0, r1, r2, r3⟩ := G.out.at_ (k := k) (by rw [HSL.out]; exact hlt)
        have hc := Ext.cell hx hc0
        rw [HRS.out.row k hlt] at hc r1
        have R3 := Lib.hid r3; clear r3 hc0
        go_wp2
        go_loopw [41] (fun i wr => ∃ l : Nat, l ≤ m ∧ i = .int .i64 l ∧ (∀ c, c < l → elOf S k c = 1 → protB x P k c down up = true) ∧ Ext w wr) (fun i _ => m - (intOf i).toNat)
        case atStart => exact ⟨0, Nat.zero_le _, rfl, (fun c h => by omega), hx⟩
        case round =>
          clear hc hx
          obtain ⟨l, hl', rfl, hj2, hx⟩ := hrel
          obtain ⟨wi, rfl⟩ : ∃ wi : World, wi = wr := ⟨_, rfl⟩
          have HJ2 := Lib.hid hj2; clear hj2
          by_cases hl2 : l < m
          · obtain ⟨b5, o5, rfl, hx5⟩ := R3.out l (by rw [HRS.out.row k hlt]; exact hl2)
            have e5 := Ext.cell hx hx5
            have q5 : ix (rowAt S k) l = elOf S k l := rfl
            rw [q5] at e5
            clear q5 hx5
            by_cases hone : elOf S k l = 1
            · have HP1 := Lib.hid (inp_one HIN.out (i := k) (j := l) (by rw [HN.out]; exact hlt) (by rw [HM.out]; exact hl2) hone)
              cases hpr : protB x P k l down up
              · have HB := Lib.hid (safeB_not (x := x) (P := P) (S := S) (i := k) (j := l) (by rw [HSL.out]; exact hlt) (by rw [HRS.out.row k hlt]; exact hl2) hone hpr)
                have HPR := Lib.hid hpr; clear hpr
                go_wp2_with fail
                refine (vProtected_b false x P ax ap cx cp n m k l down up _ HN.out HM.out HP.out (H1.out.ext hx) (H2.out.ext hx) hlt hl2 HP1.out HLV.out HPR.out).mono ?_
                rintro e w3 ⟨rfl, u3⟩
                go_wp2
                go_ret
                exact ⟨ret_bool HB.out.symm, hx.trans u3⟩
              · have HPR := Lib.hid hpr; clear hpr
                go_wp2_with fail
                refine (vProtected_b true x P ax ap cx cp n m k l down up _ HN.out HM.out HP.out (H1.out.ext hx) (H2.out.ext hx) hlt hl2 HP1.out HLV.out HPR.out).mono ?_
                rintro e w3 ⟨rfl, u3⟩
                have HZ : Hid (∀ c, c < l + 1 → elOf S k c = 1 → protB x P k c down up = true) := Lib.hid (fun c hc h1 => by
                  by_cases e : c = l
                  · subst e; exact HPR.out
                  · exact HJ2.out c (by omega) h1)
                go_wp2
                go_roundw
                case rel => exact ⟨l + 1, by omega, by go_num, HZ.out, hx.trans u3⟩
                case measure => simp [intOf]; omega
            · have HZ : Hid (∀ c, c < l + 1 → elOf S k c = 1 → protB x P k c down up = true) := Lib.hid (fun c hc h1 => by
                by_cases e : c = l
                · subst e; exact absurd h1 hone
                · exact HJ2.out c (by omega) h1)
              go_wp2
              go_roundw
              case rel => exact ⟨l + 1, by omega, by go_num, HZ.out, hx⟩
              case measure => simp [intOf]; omega
          · have HZ : Hid (∀ a c, a < k + 1 → c < m → elOf S a c = 1 → protB x P a c down up = true) := Lib.hid (fun a c ha hc h1 => by
              by_cases e : a = k
              · subst e; exact HJ2.out c (by omega) h1
              · exact HJ.out a c (by omega) hc h1)
            go_wp2
            go_roundw
            case rel => exact ⟨k + 1, by omega, by go_num, HZ.out, hx⟩
            case measure => simp [intOf]; omega
      · have HB : Hid (safeB x P S down up = true) := Lib.hid (safeB_true.2 (fun i j hi hj h1 => by
          rw [HSL.out] at hi
          rw [HRS.out.row i hi] at hj
          exact HJ.out i j (by omega) hj h1))
        go_wp2
        go_ret
        exact ⟨ret_bool HB.out.symm, hx⟩
set_option maxRecDepth 100000 in
set_option maxHeartbeats 3200000 in
theorem protects_b (b : Bool) (x P S : List (List Int)) (v1 v2 v3 : Value) (down up : Int) (w : World) (hb : safeB x P S down up = b) (hin : inpB x P S = true) (hl : levB down up = true) (h1 : Grid w v1 x) (h2 : Grid w v2 P) (h3 : Grid w v3 S) :
    Calls Try.prog 55 #[v1, v2, v3, .int .i64 down, .int .i64 up] w fun e w' => e = .returned (.bool b) ∧ Ext w w' := by
  subst hb
  have H1 := Lib.hid h1
  have H2 := Lib.hid h2; clear h2
  have H3 := Lib.hid h3; clear h3
  obtain ⟨ax, cx, rfl, x1, x2, x3⟩ := h1
  clear x3
  obtain ⟨hp, hs, hc⟩ := inpB_true hin
  have hd := atk_dims hp
  have HRS := Lib.hid (pat_rc hs)
  have HIN := Lib.hid hin; clear hin
  have HP := Lib.hid hp; clear hp hs hc
  have HLV := Lib.hid hl; clear hl
  obtain ⟨n, hn⟩ : ∃ n, x.length = n := ⟨_, rfl⟩
  obtain ⟨m, hm⟩ : ∃ m, (rowAt x 0).length = m := ⟨_, rfl⟩
  rw [hn] at HRS hd x1 H1
  rw [hm] at HRS hd
  rw [hn]
  have HN := Lib.hid hn; clear hn
  have HM := Lib.hid hm; clear hm
  obtain ⟨d1, d2, d3, d4⟩ := hd
  have hr8 : ∀ i, i < S.length → (rowAt S i).length ≤ 8 := fun i hi => by rw [HRS.out.row i (by rw [← HRS.out.len]; exact hi)]; exact d4
  have hs8 : S.length ≤ 8 := by rw [HRS.out.len]; exact d2
  have hl8 := cellsL_len (f := oneF) (p := S) (m := 8) hr8
  obtain ⟨L, hL⟩ : ∃ L, cellsL oneF S = L := ⟨_, rfl⟩
  obtain ⟨N, hN⟩ : ∃ N, L.length = N := ⟨_, rfl⟩
  rw [hL, hN] at hl8
  have hN64 : N ≤ 64 := by omega
  have HL := Lib.hid hL; clear hL
  have HNN := Lib.hid hN; clear hN hl8
  go_enter Try.func55, Try.ntmps55
  go_wp2_with fail
  refine (attackNetwork_c _ x _ P _ H1.out H2.out HP.out).mono ?_
  rintro e w2 ⟨v2', rfl, ot, u2⟩
  have hr := ot.read
  clear ot
  obtain ⟨a0, c0, a1, c1, a2, c2, a3, c3, rfl⟩ := atk_form HP.out hr
  rw [HN.out, HM.out] at hr ⊢
  have HR := Lib.hid hr; clear hr
  have uA := (Ext.refl w2).alloc (.cells #[.slice a0 n c0, .slice a1 m c1, .slice a2 n c2, .slice a3 n c3] 38)
  have b0 := Box.new w2 38 #[.slice a0 n c0, .slice a1 m c1, .slice a2 n c2, .slice a3 n c3] rfl
  have uX := u2.trans uA
  go_wp2_with fail
  refine (positions_c _ S _ (H3.out.ext uX) hs8 hr8).mono ?_
  rw [HL.out]
  rintro e w4 ⟨v', rvs, rfl, og, u4⟩
  obtain ⟨aq, cq, rfl, l1, l2, og⟩ := og
  have OG := Lib.hid og; clear og
  have b4 := b0.ext u4
  have v4 := uX.trans u4
  have HRT := Lib.hid (HR.out.ext (uA.trans u4))
  have hz0 := uX.size
  have hz4 := u4.size
  rw [HNN.out] at l1 ⊢
  clear hs8 hr8 u2 uA u4
  go_wp2
  go_loopw [20] (fun i wr => ∃ t : Nat, t ≤ N ∧ i = .int .i64 t ∧ (∀ s a c, s < t → rowAt L s = pairI a c → protB x P a c down up = true) ∧ Ext w4 wr) (fun i _ => N - (intOf i).toNat)
  case atStart => exact ⟨0, Nat.zero_le _, rfl, (fun s a c h => by omega), Ext.refl _⟩
  case round =>
    obtain ⟨t, ht, rfl, hj, hx⟩ := hrel
    obtain ⟨wo, rfl⟩ : ∃ wo : World, wo = wr := ⟨_, rfl⟩
    have HJ := Lib.hid hj; clear hj
    by_cases hlt : t < N
    · obtain ⟨i, j, hi, hjj, hf, er⟩ := cellsL_row (f := oneF) (p := S) (t := t) (by rw [HL.out, HNN.out]; exact hlt)
      rw [HL.out] at er
      have hi' : i < n := by rw [← HRS.out.len]; exact hi
      have hj' : j < m := by rw [← HRS.out.row i hi']; exact hjj
      have htL : t < L.length := by rw [HNN.out]; exact hlt
      obtain ⟨bq, oq, rfl, _, _, _, hcq, _⟩ := (OG.out.ext hx).at_ (k := t) htL
      have hrow := (OG.out.ext hx).row t htL
      have HER := Lib.hid er
      have hone : elOf S i j = 1 := by simpa [oneF] using hf
      have HON := Lib.hid (And.intro hi (And.intro hjj hone)); clear hone
      rw [er] at hrow
      obtain ⟨ar, cr, erv, k1, k2, oa⟩ := hrow
      have k3 : (pairI i j).length = 2 := rfl
      rw [k3] at erv k1
      rw [erv] at hcq
      obtain ⟨b5, o5, rfl, _, _, _, hx5, _⟩ := oa.at_ (k := 0) (by rw [k3]; omega)
      obtain ⟨b5', o5', e6, _, _, _, hx6, _⟩ := oa.at_ (k := 1) (by rw [k3]; omega)
      simp only [Option.some.injEq, Addr.mk.injEq, and_true] at e6
      obtain ⟨rfl, rfl⟩ := e6
      have q5 : ix (pairI i j) 0 = (i : Int) := rfl
      have q6 : ix (pairI i j) 1 = (j : Int) := rfl
      rw [q5, Nat.add_zero] at hx5
      rw [q6] at hx6
      clear q5 q6 k3 oa er htL hf hi hjj
      have ERV := Lib.hid erv; clear erv
      have bo := b4.ext hx
      have y0 : wo.cell? ⟨w2.heap.size, 0, none⟩ = some (.slice a0 n c0) := bo.cell 0 (by simp)
      have y1 : wo.cell? ⟨w2.heap.size, 1, none⟩ = some (.slice a1 m c1) := bo.cell 1 (by simp)
      have y2 : wo.cell? ⟨w2.heap.size, 2, none⟩ = some (.slice a2 n c2) := bo.cell 2 (by simp)
      have y3 : wo.cell? ⟨w2.heap.size, 3, none⟩ = some (.slice a3 n c3) := bo.cell 3 (by simp)
      clear bo
      have hxw := v4.trans hx
      have HT : Hid (TrR wo.drew (.agg #[.slice a0 n c0, .slice a1 m c1, .slice a2 n c2, .slice a3 n c3]) (atkT x P)) := Lib.hid (HRT.out.ext hx.drew)
      have HXX : Hid (Grid wo.drew (.slice ax n cx) x) := Lib.hid (H1.out.ext hxw.drew)
      obtain ⟨b, hpr⟩ : ∃ b, protB x P i j down up = b := ⟨_, rfl⟩
      have HPR := Lib.hid hpr; clear hpr
      go_wp2_with fail
      go_region_held3 (fun x => x.cell? ⟨w2.heap.size, 0, none⟩ = some (.slice a0 n c0) ∧ x.cell? ⟨w2.heap.size, 1, none⟩ = some (.slice a1 m c1) ∧ x.cell? ⟨w2.heap.size, 2, none⟩ = some (.slice a2 n c2) ∧ x.cell? ⟨w2.heap.size, 3, none⟩ = some (.slice a3 n c3) ∧ x.cell? ⟨b5, o5, none⟩ = some (.int .i64 i) ∧ x.cell? ⟨b5, o5 + 1, none⟩ = some (.int .i64 j))
        (first | exact ⟨E5.cell y0, E5.cell y1, E5.cell y2, E5.cell y3, E5.cell hx5, E5.cell hx6⟩ | exact ⟨y0, y1, y2, y3, hx5, hx6⟩ | go_keep)
        ((go_at_call 86; refine (isProtected_b b x P a0 a1 a2 a3 ax c0 c1 c2 c3 cx n m i j down up _ HN.out HM.out HP.out HT.out HXX.out hi' hj' HLV.out HPR.out).mono ?_; rintro e w5 ⟨rfl, u5⟩; have E5 := (Ext.refl wo).drew.trans u5))
      have hx5' := hx.trans E5
      clear hx5 hx6 y0 y1 y2 y3 hcq
      cases b
      · have HB := Lib.hid (safeB_not HON.out.1 HON.out.2.1 HON.out.2.2 HPR.out)
        go_wp2
        go_ret
        exact ⟨ret_bool HB.out.symm, v4.trans hx5'⟩
      · have HZ : Hid (∀ s a c, s < t + 1 → rowAt L s = pairI a c → protB x P a c down up = true) := Lib.hid (fun s a c hs he => by
          by_cases e : s = t
          · subst e
            rw [HER.out] at he
            obtain ⟨rfl, rfl⟩ := pairI_inj he
            exact HPR.out
          · exact HJ.out s a c (by omega) he)
        go_wp2
        go_roundw
        case rel => exact ⟨t + 1, by omega, by go_num, HZ.out, hx5'⟩
        case measure => simp [intOf]; omega
    · have HB : Hid (safeB x P S down up = true) := Lib.hid (safeB_true.2 (fun i j hi hj h1 => by
        obtain ⟨t', ht', e⟩ := cellsL_mem (f := oneF) hi hj (by simp [oneF, h1])
        rw [HL.out] at ht' e
        rw [HNN.out] at ht'
        exact HJ.out t' i j (by omega) e))
      go_wp2
      go_ret
      exact ⟨ret_bool HB.out.symm, v4.trans hx⟩
end Go.Proofs.Ytodnkahnbidgaaa
namespace Go.Proofs.Ytodnkahnbidgaaa
open Go.RowKit
open Fm

/-- hidden by S and not by P -/
def addF (P : List (List Int)) (i j : Nat) (v : Int) : Bool := decide (v = 1) && decide (elOf P i j = 0)
def addQ (P : List (List Int)) (r : List Int) : Bool := decide (elOf P (ix r 0).toNat (ix r 1).toNat = 0)
def valR (x : List (List Int)) (r : List Int) : Int := elOf x (ix r 0).toNat (ix r 1).toNat
def sumR (x : List (List Int)) (L : List (List Int)) : Int := (L.map (valR x)).sum
theorem addQ_pair (P : List (List Int)) (i j : Nat) : addQ P (pairI i j) = decide (elOf P i j = 0) := by
  have e0 : ix (pairI i j) 0 = (i : Int) := rfl
  have e1 : ix (pairI i j) 1 = (j : Int) := rfl
  simp [addQ, e0, e1]
theorem valR_pair (x : List (List Int)) (i j : Nat) : valR x (pairI i j) = elOf x i j := by
  have e0 : ix (pairI i j) 0 = (i : Int) := rfl
  have e1 : ix (pairI i j) 1 = (j : Int) := rfl
  simp [valR, e0, e1]
theorem add_filter (P S : List (List Int)) : (cellsL oneF S).filter (addQ P) = cellsL (addF P) S := by
  rw [cellsL_filter]
  simp only [addQ_pair]; rfl
theorem sumR_snoc (x L : List (List Int)) (i j : Nat) : sumR x (L ++ [pairI i j]) = sumR x L + elOf x i j := by
  simp [sumR, valR_pair]
/-- the sum of few small values is small -/
theorem sumR_bound {x L : List (List Int)} {n m : Nat} (hx : ∀ i j, i < n → j < m → 0 ≤ elOf x i j ∧ elOf x i j ≤ 1000) (hL : ∀ r ∈ L, ∃ i j, i < n ∧ j < m ∧ r = pairI i j) : 0 ≤ sumR x L ∧ sumR x L ≤ L.length * 1000 := by
  induction L with
  | nil => simp [sumR]
  | cons r rs ih =>
    obtain ⟨i, j, hi, hj, rfl⟩ := hL r (by simp)
    have h1 := ih (fun q hq => hL q (by simp [hq]))
    have h2 := hx i j hi hj
    have e : sumR x (pairI i j :: rs) = elOf x i j + sumR x rs := by simp [sumR, valR_pair]
    rw [e]
    simp only [List.length_cons]
    omega
/-- each row of the list under way is the place of a cell -/
theorem cellsTo_row {f : Nat → Nat → Int → Bool} {p : List (List Int)} {k l n m : Nat} (hk : k ≤ n) (hk2 : k < n ∨ l = 0) (hl : l ≤ m) (hr : ∀ i, i < n → (rowAt p i).length = m) : ∀ r ∈ cellsTo f p k l, ∃ i j, i < n ∧ j < m ∧ r = pairI i j := by
  intro r h
  simp only [cellsTo, rowC, List.mem_append, List.mem_flatMap, List.mem_map, List.mem_filter, List.mem_range] at h
  rcases h with ⟨i, hi, j, ⟨hj, _⟩, rfl⟩ | ⟨j, ⟨hj, _⟩, rfl⟩
  · exact ⟨i, j, by omega, by rw [← hr i (by omega)]; exact hj, rfl⟩
  · exact ⟨k, j, by omega, by omega, rfl⟩
end Go.Proofs.Ytodnkahnbidgaaa
namespace Go.Proofs.Ytodnkahnbidgaaa
open Go.RowKit
open Fm

set_option maxRecDepth 100000 in
set_option maxHeartbeats 3200000 in
theorem vPlan_c (x P S : List (List Int)) (v1 v2 v3 : Value) (w : World) (hs : pubB x S = true) (hpp : pubB x P = true) (h1 : Grid w v1 x) (h2 : Grid w v2 P) (h3 : Grid w v3 S) :
    Calls Try.prog 39 #[v1, v2, v3] w fun e w' => ∃ (a : Option Addr) (c : Nat), e = .returned (.agg #[.slice a S.length c, .int .i64 (cellsL (addF P) S).length, .int .i64 (sumR x (cellsL (addF P) S))]) ∧ Ext w w' := by
  have H3 := Lib.hid h3
  obtain ⟨ax, cx, rfl, x1, x2, x3⟩ := h1
  have GX := Lib.hid x3; clear x3
  obtain ⟨ap, cp, rfl, p1, p2, p3⟩ := h2
  have GP := Lib.hid p3; clear p3
  obtain ⟨as_, cs, rfl, s1, s2, s3⟩ := h3
  have GS := Lib.hid s3; clear s3
  have hd := atk_dims hs
  have HRX := Lib.hid (pub_rc hs)
  have HRS := Lib.hid (pat_rc hs)
  have HRP := Lib.hid (pat_rc hpp)
  have HEL := Lib.hid (fun i j hi hj => pub_el hs (i := i) (j := j) hi hj)
  clear hs hpp
  obtain ⟨n, hn⟩ : ∃ n, x.length = n := ⟨_, rfl⟩
  obtain ⟨m, hm⟩ : ∃ m, (rowAt x 0).length = m := ⟨_, rfl⟩
  rw [hn] at HRX HRS HRP HEL hd x1
  rw [hm] at HRX HRS HRP HEL hd
  have hxl := HRX.out.len
  have hpl := HRP.out.len
  have hsl := HRS.out.len
  rw [hpl] at p1
  rw [hsl] at s1 H3
  rw [hn, hpl, hsl]
  have HPL := Lib.hid hpl; clear hpl
  have HSL := Lib.hid hsl; clear hsl hxl
  have HN := Lib.hid hn; clear hn
  have HM := Lib.hid hm; clear hm
  obtain ⟨d1, d2, d3, d4⟩ := hd
  have HC : Hid (S.length ≤ 1048576 ∧ (∀ k, k < S.length → (rowAt S k).length ≤ 1048576) ∧ ∀ k, k < S.length → rowAt S k ≠ []) := Lib.hid ⟨by rw [HSL.out]; omega, fun k hk => by rw [HRS.out.row k (by rw [← HSL.out]; exact hk)]; omega, fun k hk e => by
    have := HRS.out.row k (by rw [← HSL.out]; exact hk)
    rw [e] at this; simp at this; omega⟩
  have HR8 : Hid (∀ i, i < S.length → (rowAt S i).length ≤ 8) := Lib.hid (fun i hi => by rw [HRS.out.row i (by rw [← HSL.out]; exact hi)]; exact d4)
  obtain ⟨F, hF⟩ : ∃ F, addF P = F := ⟨_, rfl⟩
  rw [hF]
  have HF := Lib.hid hF; clear hF
  have u0 := (Ext.refl w).alloc (.cells #[.slice none 0 0, .int .i64 0, .int .i64 0] 30)
  have b0 := Box.new w 30 #[.slice none 0 0, .int .i64 0, .int .i64 0] rfl
  go_enter Try.func39, Try.ntmps39
  go_wp2_with fail
  refine (tOwn_c _ S _ (H3.out.ext u0) HC.out.1 HC.out.2.1 HC.out.2.2).mono ?_
  rintro e w2 ⟨v', rv, rfl, o2, u2⟩
  obtain ⟨av, cv, rfl, _, _, qq⟩ := o2
  clear qq
  rw [HSL.out]
  have uX := u0.trans u2
  have bR := b0.ext u2
  have b1 := Box.new w2 30 #[.slice av n cv, .int .i64 0, .int .i64 0] rfl
  have hz2 : w.heap.size + 1 ≤ w2.heap.size := bR.lt
  have e1 := (Ext.refl w2).alloc (.cells #[.slice av n cv, .int .i64 0, .int .i64 0] 30)
  clear u0 u2 b0
  go_wp2
  go_loopw [17] (fun i wr => ∃ k : Nat, k ≤ n ∧ i = .int .i64 k ∧ Box wr w2.heap.size 30 #[.slice av n cv, .int .i64 (cellsTo F S k 0).length, .int .i64 (sumR x (cellsTo F S k 0))] ∧ Ext w2 wr) (fun i _ => n - (intOf i).toNat)
  case atStart => exact ⟨0, Nat.zero_le _, rfl, by rw [cellsTo_start]; exact b1, e1⟩
  case round =>
    clear b1 e1
    obtain ⟨k, hk, rfl, hb, hx⟩ := hrel
    obtain ⟨wo, rfl⟩ : ∃ wo : World, wo = wr := ⟨_, rfl⟩
    have HB := Lib.hid hb; clear hb
    by_cases hlt : k < n
    · obtain ⟨bs, os, ar, cr, rfl, hc0, r1, r2, r3⟩ := GS.out.at_ (k := k) (by rw [HSL.out]; exact hlt)
      rw [HRS.out.row k hlt] at hc0 r1
      have hc := Ext.cell (uX.trans hx) hc0
      have R3 := Lib.hid r3; clear r3 hc0
      obtain ⟨bp, op, ar2, cr2, rfl, hcp, t1, t2, t3⟩ := GP.out.at_ (k := k) (by rw [HPL.out]; exact hlt)
      rw [HRP.out.row k hlt] at hcp t1
      have T3 := Lib.hid t3; clear t3
      obtain ⟨bx, ox, ar3, cr3, rfl, hcx, y1, y2, y3⟩ := GX.out.at_ (k := k) (by rw [HN.out]; exact hlt)
      rw [HRX.out.row k hlt] at hcx y1
      have Y3 := Lib.hid y3; clear y3
      go_wp2
      go_loopw [24] (fun i wr => ∃ l : Nat, l ≤ m ∧ i = .int .i64 l ∧ Box wr w2.heap.size 30 #[.slice av n cv, .int .i64 (cellsTo F S k l).length, .int .i64 (sumR x (cellsTo F S k l))] ∧ Ext w2 wr) (fun i _ => m - (intOf i).toNat)
      case atStart => exact ⟨0, Nat.zero_le _, rfl, HB.out, hx⟩
      case round =>
        clear hc hx HB
        obtain ⟨l, hl, rfl, hb, hx⟩ := hrel
        obtain ⟨wi, rfl⟩ : ∃ wi : World, wi = wr := ⟨_, rfl⟩
        by_cases hl2 : l < m
        · obtain ⟨b5, o5, rfl, hx5⟩ := R3.out l (by rw [HRS.out.row k hlt]; exact hl2)
          obtain ⟨b6, o6, rfl, hx6⟩ := T3.out l (by rw [HRP.out.row k hlt]; exact hl2)
          obtain ⟨b7, o7, rfl, hx7⟩ := Y3.out l (by rw [HRX.out.row k hlt]; exact hl2)
          have q5 : ix (rowAt S k) l = elOf S k l := rfl
          have q6 : ix (rowAt P k) l = elOf P k l := rfl
          have q7 : ix (rowAt x k) l = elOf x k l := rfl
          rw [q5] at hx5
          rw [q6] at hx6
          rw [q7] at hx7
          clear q5 q6 q7
          have e5 := Ext.cell (uX.trans hx) hx5
          have e6 := Ext.cell (uX.trans hx) hx6
          have e7 := Ext.cell (uX.trans hx) hx7
          have ecp := Ext.cell (uX.trans hx) hcp
          have ecx := Ext.cell (uX.trans hx) hcx
          clear hx5 hx6
          have z0 := hb.cell 0 (by simp)
          have z1 := hb.cell 1 (by simp)
          have z2 := hb.cell 2 (by simp)
          have f1 := hb.free 1
          have f2 := hb.free 2
          by_cases hone : elOf S k l = 1
          · by_cases hz : elOf P k l = 0
            · have hf : F k l (elOf S k l) = true := by rw [← HF.out]; simp [addF, hone, hz]
              have HCY := Lib.hid (cellsTo_yes hf); clear hf
              have hlen := cellsTo_len (f := F) (p := S) (k := k) (l := l) (m := 8) (by rw [HSL.out]; exact hk) HR8.out
              have hsb := sumR_bound (x := x) (L := cellsTo F S k l) (n := n) (m := m) HEL.out (cellsTo_row (by omega) (.inl hlt) (by omega) (fun i hi => HRS.out.row i hi))
              have hel := HEL.out k l hlt hl2
              have HSN := Lib.hid (sumR_snoc x (cellsTo F S k l) k l)
              obtain ⟨N, hN⟩ : ∃ N, (cellsTo F S k l).length = N := ⟨_, rfl⟩
              obtain ⟨T, hT⟩ : ∃ T, sumR x (cellsTo F S k l) = T := ⟨_, rfl⟩
              rw [hT] at HSN
              rw [hN, hT] at hsb hb
              rw [hN] at hlen z1
              rw [hT] at z2
              obtain ⟨X, hX⟩ : ∃ X, elOf x k l = X := ⟨_, rfl⟩
              rw [hX] at hel e7 HSN
              have hn80 : N ≤ 80 := by omega
              have hb1 : 0 ≤ T ∧ T ≤ 100000 := by omega
              have hwX : IntKind.i64.wrap (T + X) = T + X := IntWalk.i64_in _ (by omega)
              have HNN := Lib.hid hN; clear hN
              have HTT := Lib.hid hT; clear hT hsb hlen
              have HXE := Lib.hid hX; clear hX
              have hb2 := hb.set 1 (.int .i64 ((N : Int) + 1))
              have hx2 := hx.setCell (a := ⟨w2.heap.size, 1, none⟩) (.int .i64 ((N : Int) + 1)) (Nat.le_refl _)
              obtain ⟨wj, hwj⟩ : ∃ wj, wi.setCell ⟨w2.heap.size, 1, none⟩ (.int .i64 ((N : Int) + 1)) = wj := ⟨_, rfl⟩
              rw [hwj] at hb2 hx2
              have HWJ := Lib.hid hwj; clear hwj
              have k2 : wj.cell? ⟨w2.heap.size, 2, none⟩ = some (.int .i64 T) := hb2.cell 2 (by simp)
              have g2 := hb2.free 2
              have kx : wj.cell? ⟨bx, ox + k, none⟩ = some (.slice (some ⟨b7, o7, none⟩) m cr3) := Ext.cell (uX.trans hx2) hcx
              have k7 : wj.cell? ⟨b7, o7 + l, none⟩ = some (.int .i64 X) := Ext.cell (uX.trans hx2) (by rw [← HXE.out]; exact hx7)
              have hnx : bx ≠ w2.heap.size := by have := World.block_lt_of_cell? w _ hcx; simp only at this; omega
              have hn7 : b7 ≠ w2.heap.size := by have := World.block_lt_of_cell? w _ hx7; simp only at this; omega
              have hb3 := hb2.drew.set 2 (.int .i64 (T + X))
              have hx3 := hx2.drew.setCell (a := ⟨w2.heap.size, 2, none⟩) (.int .i64 (T + X)) (Nat.le_refl _)
              have HB3 := Lib.hid (And.intro hb3 hx3); clear hb3 hx3
              go_wp2_with fail
              rw [HWJ.out]
              go_region
              go_wp2
              go_roundw
              case rel => exact ⟨l + 1, by omega, by go_num, by rw [HCY.out, HSN.out, List.length_append, HNN.out]; exact HB3.out.1, HB3.out.2⟩
              case measure => simp [intOf]; omega
            · have hf : F k l (elOf S k l) = false := by rw [← HF.out]; simp [addF, hz]
              have HCN := Lib.hid (cellsTo_no hf); clear hf
              have HBB := Lib.hid hb; clear hb
              clear z0 z1 z2 f1 f2
              go_wp2
              go_roundw
              case rel => exact ⟨l + 1, by omega, by go_num, by rw [HCN.out]; exact HBB.out, hx⟩
              case measure => simp [intOf]; omega
          · have hf : F k l (elOf S k l) = false := by rw [← HF.out]; simp [addF, hone]
            have HCN := Lib.hid (cellsTo_no hf); clear hf
            have HBB := Lib.hid hb; clear hb
            clear z0 z1 z2 f1 f2
            go_wp2
            go_roundw
            case rel => exact ⟨l + 1, by omega, by go_num, by rw [HCN.out]; exact HBB.out, hx⟩
            case measure => simp [intOf]; omega
        · have hlm : l = (rowAt S k).length := by rw [HRS.out.row k hlt]; omega
          have HCX := Lib.hid (cellsTo_next (f := F) hlm); clear hlm
          have HBB := Lib.hid hb; clear hb
          go_wp2
          go_roundw
          case rel => exact ⟨k + 1, by omega, by go_num, by rw [HCX.out]; exact HBB.out, hx⟩
          case measure => simp [intOf]; omega
    · have hkk : k = S.length := by rw [HSL.out]; omega
      have HKK : Hid (cellsTo F S k 0 = cellsL F S) := Lib.hid (by unfold cellsL; rw [← hkk])
      clear hkk
      have hb := HB.out
      rw [HKK.out] at hb
      have br := bR.ext hx
      have f0 := br.free 0
      have f1 := br.free 1
      have f2 := br.free 2
      have g0 := br.cell 0 (by simp)
      have g1 := br.cell 1 (by simp)
      have g2 := br.cell 2 (by simp)
      have k0 := hb.cell 0 (by simp)
      have k1 := hb.cell 1 (by simp)
      have k2 := hb.cell 2 (by simp)
      have hxw := uX.trans hx
      clear HB
      go_wp2
      refine bodyPost_ret (v := .agg #[.slice av n cv, .int .i64 (cellsL F S).length, .int .i64 (sumR x (cellsL F S))]) (by simp [results, Try.results39, go_sem, g0, g1, g2]) rfl ⟨_, _, rfl, ((hxw.setCell _ (Nat.le_refl _)).setCell _ (Nat.le_refl _)).setCell _ (Nat.le_refl _)⟩
end Go.Proofs.Ytodnkahnbidgaaa
namespace Go.Proofs.Ytodnkahnbidgaaa
open Go.RowKit
open Fm

noncomputable def cpB (x P : List (List Int)) (down up : Int) : Bool := pubB x P && levB down up
/-- 1: no pattern over P; 2: not safe; 3: other counts; 0: as it says -/
noncomputable def cpCode (x P S : List (List Int)) (down up h t : Int) : Int :=
  if inpB x S P = true then (if safeB x S P down up = true then (if ((cellsL (addF P) S).length : Int) = h ∧ sumR x (cellsL (addF P) S) = t then 0 else 3) else 2) else 1
noncomputable def cpV (x P S : List (List Int)) (down up h t : Int) : Int := if cpB x P down up = true then cpCode x P S down up h t else 0

end Go.Proofs.Ytodnkahnbidgaaa
namespace Go.Proofs.Ytodnkahnbidgaaa
open Go.RowKit
open Fm

/-- the cells among the first t of a list that P does not hide -/
def addTo (P : List (List Int)) (L : List (List Int)) (t : Nat) : List (List Int) := (L.take t).filter (addQ P)
theorem addTo_yes {P L : List (List Int)} {t i j : Nat} (ht : t < L.length) (er : rowAt L t = pairI i j) (h : elOf P i j = 0) : addTo P L (t + 1) = addTo P L t ++ [pairI i j] := by
  unfold addTo
  rw [take_succ_row ht, List.filter_append, er]
  simp [addQ_pair, h]
theorem addTo_no {P L : List (List Int)} {t i j : Nat} (ht : t < L.length) (er : rowAt L t = pairI i j) (h : ¬ elOf P i j = 0) : addTo P L (t + 1) = addTo P L t := by
  unfold addTo
  rw [take_succ_row ht, List.filter_append, er]
  simp [addQ_pair, h]
theorem addTo_len (P L : List (List Int)) (t : Nat) : (addTo P L t).length ≤ t := by
  unfold addTo
  have h1 := List.length_filter_le (addQ P) (L.take t)
  have h2 : (L.take t).length ≤ t := by simp; omega
  omega

end Go.Proofs.Ytodnkahnbidgaaa
namespace Go.Proofs.Ytodnkahnbidgaaa
open Go.RowKit

structure Pl where
  cells : List (List Int)
  hidden : Int
  total : Int
/-- the value v reads as T -/
def PlR (w : World) (v : Value) (T : Pl) : Prop := ∃ v0 v1 v2, v = .agg #[v0, v1, v2] ∧ Grid w v0 T.cells ∧ v1 = .int .i64 T.hidden ∧ v2 = .int .i64 T.total
def PlWf (T : Pl) : Prop := WfG T.cells ∧ (-9223372036854775808 ≤ T.hidden ∧ T.hidden ≤ 9223372036854775807) ∧ (-9223372036854775808 ≤ T.total ∧ T.total ≤ 9223372036854775807)
def PlSmall (T : Pl) : Prop := Small T.cells
theorem PlR.ext {w w' : World} {v : Value} {T : Pl} (h : PlR w v T) (u : Ext w w') : PlR w' v T := by
  obtain ⟨v0, v1, v2, rfl, h0, h1, h2⟩ := h
  exact ⟨_, _, _, rfl, h0.ext u, h1, h2⟩
theorem PlR.form {w : World} {v : Value} {T : Pl} (h : PlR w v T) : ∃ a0 c0, v = .agg #[.slice a0 T.cells.length c0, .int .i64 T.hidden, .int .i64 T.total] ∧ T.cells.length ≤ 9223372036854775807 := by
  obtain ⟨v0, v1, v2, rfl, h0, h1, h2⟩ := h
  obtain ⟨a0, c0, rfl, p0, q0, _⟩ := h0
  subst h1
  subst h2
  exact ⟨a0, c0, rfl, by omega⟩
theorem PlR.f0 {w : World} {T : Pl} {v0 v1 v2 : Value} (h : PlR w (.agg #[v0, v1, v2]) T) : Grid w v0 T.cells := by
  obtain ⟨x0, x1, x2, e, h0, h1, h2⟩ := h
  simp only [Value.agg.injEq, Array.mk.injEq, List.cons.injEq, and_true] at e
  obtain ⟨rfl, rfl, rfl⟩ := e
  exact h0
/-- the value v reads as T, each field in blocks of its own, which are apart from the other fields' -/
def PlO (lo hi : Nat) (w : World) (v : Value) (T : Pl) : Prop := ∃ (v0 v1 v2 : Value) (r0 : List Value), v = .agg #[v0, v1, v2] ∧ OwnG lo hi w v0 r0 T.cells ∧ v1 = .int .i64 T.hidden ∧ v2 = .int .i64 T.total
/-- the same, the fields in ranges that follow one another -/
def PlL (lo hi : Nat) (w : World) (v : Value) (T : Pl) : Prop := ∃ (v0 v1 v2 : Value) (r0 : List Value) (m0 m1 : Nat), v = .agg #[v0, v1, v2] ∧ lo ≤ m0 ∧ m0 ≤ m1 ∧ m1 ≤ hi ∧ OwnG m0 m1 w v0 r0 T.cells ∧ v1 = .int .i64 T.hidden ∧ v2 = .int .i64 T.total
/-- the value v reads as T, each field in blocks numbered from lo on and below hi -/
def PlN (lo hi : Nat) (w : World) (v : Value) (T : Pl) : Prop := ∃ (v0 v1 v2 : Value) (r0 : List Value), v = .agg #[v0, v1, v2] ∧ OwnG lo hi w v0 r0 T.cells ∧ v1 = .int .i64 T.hidden ∧ v2 = .int .i64 T.total
theorem PlL.o {lo hi : Nat} {w : World} {v : Value} {T : Pl} (h : PlL lo hi w v T) : PlO lo hi w v T := by
  obtain ⟨v0, v1, v2, r0, m0, m1, rfl, l0, l1, l9, o0, z1, z2⟩ := h
  exact ⟨v0, v1, v2, r0, rfl, o0.mono (by omega) (by omega), z1, z2⟩
theorem PlO.read {lo hi : Nat} {w : World} {v : Value} {T : Pl} (h : PlO lo hi w v T) : PlR w v T := by
  obtain ⟨v0, v1, v2, r0, rfl, o0, z1, z2⟩ := h
  exact ⟨v0, v1, v2, rfl, o0.grid, z1, z2⟩
theorem PlO.ext {lo hi : Nat} {w w' : World} {v : Value} {T : Pl} (h : PlO lo hi w v T) (u : Ext w w') : PlO lo hi w' v T := by
  obtain ⟨v0, v1, v2, r0, rfl, o0, z1, z2⟩ := h
  exact ⟨v0, v1, v2, r0, rfl, o0.ext u, z1, z2⟩
theorem PlO.away {S : Nat → Prop} {lo hi : Nat} {w w' : World} {v : Value} {T : Pl} (h : PlO lo hi w v T) (u : Upd S w w') (hs : ∀ b, S b → b < lo ∨ hi ≤ b) : PlO lo hi w' v T := by
  obtain ⟨v0, v1, v2, r0, rfl, o0, z1, z2⟩ := h
  exact ⟨v0, v1, v2, r0, rfl, o0.away u hs, z1, z2⟩
theorem PlO.mono {lo hi lo' hi' : Nat} {w : World} {v : Value} {T : Pl} (h : PlO lo hi w v T) (h1 : lo' ≤ lo) (h2 : hi ≤ hi') : PlO lo' hi' w v T := by
  obtain ⟨v0, v1, v2, r0, rfl, o0, z1, z2⟩ := h
  exact ⟨v0, v1, v2, r0, rfl, o0.mono h1 h2, z1, z2⟩
theorem PlN.read {lo hi : Nat} {w : World} {v : Value} {T : Pl} (h : PlN lo hi w v T) : PlR w v T := by
  obtain ⟨v0, v1, v2, r0, rfl, o0, z1, z2⟩ := h
  exact ⟨v0, v1, v2, rfl, o0.grid, z1, z2⟩
theorem PlN.ext {lo hi : Nat} {w w' : World} {v : Value} {T : Pl} (h : PlN lo hi w v T) (u : Ext w w') : PlN lo hi w' v T := by
  obtain ⟨v0, v1, v2, r0, rfl, o0, z1, z2⟩ := h
  exact ⟨v0, v1, v2, r0, rfl, o0.ext u, z1, z2⟩
theorem PlN.away {S : Nat → Prop} {lo hi : Nat} {w w' : World} {v : Value} {T : Pl} (h : PlN lo hi w v T) (u : Upd S w w') (hs : ∀ b, S b → b < lo ∨ hi ≤ b) : PlN lo hi w' v T := by
  obtain ⟨v0, v1, v2, r0, rfl, o0, z1, z2⟩ := h
  exact ⟨v0, v1, v2, r0, rfl, o0.away u hs, z1, z2⟩
theorem PlN.mono {lo hi lo' hi' : Nat} {w : World} {v : Value} {T : Pl} (h : PlN lo hi w v T) (h1 : lo' ≤ lo) (h2 : hi ≤ hi') : PlN lo' hi' w v T := by
  obtain ⟨v0, v1, v2, r0, rfl, o0, z1, z2⟩ := h
  exact ⟨v0, v1, v2, r0, rfl, o0.mono h1 h2, z1, z2⟩

set_option maxHeartbeats 1600000 in
theorem eqPlan_t (v1 v2 : Value) (T : Pl) (w : World) (h1 : PlR w v1 T) (h2 : PlR w v2 T) :
    Calls Try.prog 15 #[v1, v2] w fun e w' => e = .returned (.bool true) ∧ Ext w w' := by
  have H1 := Lib.hid h1
  have H2 := Lib.hid h2
  obtain ⟨a0, c0, rfl, _⟩ := h1.form
  obtain ⟨d0, e0, rfl, _⟩ := h2.form
  clear h1 h2
  have v0 := ((Ext.refl w).alloc (.cells #[.slice a0 T.cells.length c0, .int .i64 T.hidden, .int .i64 T.total] 30)).alloc (.cells #[.slice d0 T.cells.length e0, .int .i64 T.hidden, .int .i64 T.total] 30)
  have b1_0 := (Box.new w 30 #[.slice a0 T.cells.length c0, .int .i64 T.hidden, .int .i64 T.total] rfl).alloc (.cells #[.slice d0 T.cells.length e0, .int .i64 T.hidden, .int .i64 T.total] 30)
  have b2_0 := Box.new (w.alloc (.cells #[.slice a0 T.cells.length c0, .int .i64 T.hidden, .int .i64 T.total] 30)) 30 #[.slice d0 T.cells.length e0, .int .i64 T.hidden, .int .i64 T.total] (b := w.heap.size + 1) (by simp)
  have qi1 : (T.hidden != T.hidden) = false := by simp
  have qi2 : (T.total != T.total) = false := by simp
  go_enter Try.func15, Try.ntmps15
  have k1_0_0 := b1_0.cell 0 (by simp)
  have k2_0_0 := b2_0.cell 0 (by simp)
  have k1_0_1 := b1_0.cell 1 (by simp)
  have k2_0_1 := b2_0.cell 1 (by simp)
  have k1_0_2 := b1_0.cell 2 (by simp)
  have k2_0_2 := b2_0.cell 2 (by simp)
  go_wp2_with fail
  refine (eqIntSS_b true _ _ T.cells T.cells _ (by simp) (H1.out.f0.ext v0) (H2.out.f0.ext v0)).mono ?_
  rintro e w1 ⟨rfl, d1_⟩
  have u1 := Drew.ext d1_
  have v1 := v0.trans u1
  have b1_1 := b1_0.ext u1
  have b2_1 := b2_0.ext u1
  have k1_1_0 := b1_1.cell 0 (by simp)
  have k2_1_0 := b2_1.cell 0 (by simp)
  have k1_1_1 := b1_1.cell 1 (by simp)
  have k2_1_1 := b2_1.cell 1 (by simp)
  have k1_1_2 := b1_1.cell 2 (by simp)
  have k2_1_2 := b2_1.cell 2 (by simp)
  go_wp2
  go_ret
  exact ⟨rfl, v1⟩
def PlSize (T : Pl) : Int := (psum T.cells T.cells.length : Int)
theorem PlSmall.size {T : Pl} (h : PlSmall T) : 0 ≤ PlSize T ∧ PlSize T ≤ 1048576 := by
  have h0 : PlSmall T := h
  unfold PlSmall at h0
  have := h0.psum T.cells.length (Nat.le_refl _)
  unfold PlSize; omega
/-- T', of the shape of T, is marked from k0 on -/
def PlMarked (k0 : Int) (T T' : Pl) : Prop := MarkedG (k0) T.cells T'.cells
set_option maxHeartbeats 1600000 in
theorem markPlan_c (lo hi : Nat) (v : Value) (T : Pl) (k0 : Int) (w : World) (h : PlO lo hi w v T) (s : PlSmall T) (hk0 : 0 ≤ k0 ∧ k0 ≤ 1099500000000) :
    Calls Try.prog 16 #[v, .int .i64 k0] w fun e w' => e = .returned (.int .i64 (k0 + PlSize T)) ∧ (∃ T', PlO lo hi w' v T' ∧ PlMarked k0 T T') ∧ Upd (fun b => lo ≤ b ∧ b < hi) w w' := by
  have HS := Lib.hid s; clear s
  obtain ⟨a0, c0, rfl, _⟩ := h.read.form
  obtain ⟨v0, v1, v2, r0, hv, o0, z1, z2⟩ := h
  simp only [Value.agg.injEq, Array.mk.injEq, List.cons.injEq, and_true] at hv
  obtain ⟨rfl, rfl, rfl⟩ := hv
  have u0 := (Ext.refl w).alloc (.cells #[.slice a0 T.cells.length c0, .int .i64 T.hidden, .int .i64 T.total] 30)
  have b0 := Box.new w 30 #[.slice a0 T.cells.length c0, .int .i64 T.hidden, .int .i64 T.total] rfl
  have IN0 := Lib.hid (show ∀ b, GB (.slice a0 T.cells.length c0) r0 T.cells b → lo ≤ b ∧ b < hi ∧ b < w.heap.size from fun b hb => o0.inside hb)
  have O0_0 := Lib.hid (o0.ext u0); clear o0
  obtain ⟨t0, ht0⟩ : ∃ t, k0 + (psum T.cells T.cells.length : Int) = t := ⟨_, rfl⟩
  have tb0 : 0 ≤ t0 ∧ t0 ≤ 1099501048576 := by have := HS.out.psum _ (Nat.le_refl _); omega
  have HT0 := Lib.hid ht0; clear ht0
  have k0_0 := b0.cell 0 (by simp)
  have k0_1 := b0.cell 1 (by simp)
  have k0_2 := b0.cell 2 (by simp)
  go_enter Try.func16, Try.ntmps16
  go_wp2_with fail
  refine (markIntSS_c _ _ _ _ T.cells k0 _ O0_0.out HS.out.row HS.out.psum (by omega)).mono ?_
  rw [HT0.out]
  rintro e w1 ⟨rfl, ⟨ys0, om0, mk0⟩, uu1⟩
  have MK0 := Lib.hid mk0; clear mk0
  have U1 : Hid (Upd (fun b => rowBlks r0 T.cells b ∧ b ≠ w.heap.size) _ w1) := Lib.hid (uu1.mono (fun b _ hb => ⟨hb, by have := IN0.out b (.inr hb); omega⟩))
  have OM0_1 := Lib.hid om0; clear om0 uu1
  have b1 := b0.upd U1.out (fun hb => hb.2 rfl)
  have k1_0 := b1.cell 0 (by simp)
  have k1_1 := b1.cell 1 (by simp)
  have k1_2 := b1.cell 2 (by simp)
  go_wp2
  go_ret
  refine ⟨ret_int (by unfold PlSize; have := HT0.out;  omega), ⟨⟨ys0, T.hidden, T.total⟩, ⟨.slice a0 T.cells.length c0, _, _, r0, rfl, by first | exact OM0_1.out | (simpa using OM0_1.out), rfl, rfl⟩, ?_⟩, ?_⟩
  · exact MK0.out
  · exact u0.then_upd (U1.out.mono (fun b _ hb => by have := IN0.out b (.inr hb.1); omega))
set_option maxHeartbeats 1600000 in
theorem heldPlan_c (v : Value) (T T' : Pl) (k0 : Int) (w : World) (h : PlR w v T') (hm : PlMarked k0 T T') (s : PlSmall T) (hk0 : 0 ≤ k0 ∧ k0 ≤ 1099500000000) :
    Calls Try.prog 17 #[v, .int .i64 k0] w fun e w' => e = .returned (.int .i64 (k0 + PlSize T)) ∧ Ext w w' := by
  have HS := Lib.hid s; clear s
  have H := Lib.hid h
  have HM := Lib.hid hm; clear hm
  obtain ⟨a0, c0, rfl, _⟩ := h.form
  clear h
  have u0 := (Ext.refl w).alloc (.cells #[.slice a0 T'.cells.length c0, .int .i64 T'.hidden, .int .i64 T'.total] 30)
  have b0 := Box.new w 30 #[.slice a0 T'.cells.length c0, .int .i64 T'.hidden, .int .i64 T'.total] rfl
  obtain ⟨t0, ht0⟩ : ∃ t, k0 + (psum T.cells T.cells.length : Int) = t := ⟨_, rfl⟩
  have tb0 : 0 ≤ t0 ∧ t0 ≤ 1099501048576 := by have := HS.out.psum _ (Nat.le_refl _); omega
  have tn0 : ¬ (t0 < 0) := by omega
  have HT0 := Lib.hid ht0; clear ht0
  have k0_0 := b0.cell 0 (by simp)
  have k0_1 := b0.cell 1 (by simp)
  have k0_2 := b0.cell 2 (by simp)
  go_enter Try.func17, Try.ntmps17
  go_wp2_with fail
  refine (heldIntSS_c _ T.cells T'.cells k0 _ (H.out.f0.ext u0) (by have := HM.out; exact this) HS.out.row HS.out.psum (by omega)).mono ?_
  rw [HT0.out]
  rintro e w' ⟨rfl, rfl⟩
  go_wp2
  go_ret
  exact ⟨ret_int (by unfold PlSize; have := HT0.out;  omega), u0⟩
end Go.Proofs.Ytodnkahnbidgaaa
