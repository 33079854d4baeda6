/- ExpBounds, the program's. -/
import Derived.Test.YtmhofeljieicaaaExpI
namespace Go.Proofs.Ytmhofeljieicaaa
open Go.RowKit

def xOk (n d k : Int) : Bool := goodF n d && (decide (0 ≤ n) && decide (n ≤ d)) && (decide (1 ≤ k) && decide (k ≤ 6))
def xbO (n d k : Int) : Option ((Int × Int) × (Int × Int)) :=
  if xOk n d k = true then (match eSum n d (2 * k.toNat) with | none => none | some s => some ((eSum n d (2 * k.toNat - 1)).getD (0, 0), s)) else none
def xbR (n d k : Int) : (Int × Int) × (Int × Int) := (xbO n d k).getD ((0, 0), (0, 0))
def xbB (n d k : Int) : Bool := (xbO n d k).isSome
theorem xb_none {n d k : Int} (h : xbO n d k = none) : xbR n d k = ((0, 0), (0, 0)) ∧ xbB n d k = false := by simp [xbR, xbB, h]
theorem xb_some {n d k : Int} {p : (Int × Int) × (Int × Int)} (h : xbO n d k = some p) : xbR n d k = p ∧ xbB n d k = true := by simp [xbR, xbB, h]
/-- sum and the sum before -/
def LS (n d : Int) (i : Nat) (l s : Int × Int) : Prop := (i = 0 ∧ s = (0, 1)) ∨ (1 ≤ i ∧ eSum n d (i - 1) = some s ∧ (2 ≤ i → eSum n d (i - 2) = some l))
theorem LS.good {n d : Int} (hd : 1 ≤ d) {i : Nat} {l s : Int × Int} (h : LS n d i l s) : goodF s.1 s.2 = true := by
  rcases h with ⟨_, rfl⟩ | ⟨_, h, _⟩
  · decide
  · exact eSum_good hd _ _ _ h
theorem LS.terms {n d : Int} {i : Nat} {l s : Int × Int} (h : LS n d i l s) : ∀ j, j < i → fB (tmN n j) (tmD d j) = true := fun j hj => by
  rcases h with ⟨rfl, _⟩ | ⟨h1, h, _⟩
  · omega
  · exact eSum_terms _ _ h j (by omega)
theorem LS.next {n d : Int} {i : Nat} {l s : Int × Int} (h : LS n d i l s) (ht : fB (tmN n i) (tmD d i) = true) (hb : fB (s.1 * tD n d i + tN n d i * s.2) (s.2 * tD n d i) = true) :
    LS n d (i + 1) s (fVN (s.1 * tD n d i + tN n d i * s.2) (s.2 * tD n d i), fVD (s.1 * tD n d i + tN n d i * s.2) (s.2 * tD n d i)) := by
  right
  rcases h with ⟨rfl, rfl⟩ | ⟨h1, h2, _⟩
  · refine ⟨by omega, ?_, fun h => by omega⟩
    obtain ⟨e1, e2, _⟩ := term_zero (n := n) (d := d)
    rw [e1, e2, show eSum n d (0 + 1 - 1) = some (1, 1) from rfl]; decide
  · obtain ⟨i, rfl⟩ : ∃ i', i = i' + 1 := ⟨i - 1, by omega⟩
    refine ⟨by omega, ?_, fun _ => by simpa using h2⟩
    rw [Nat.add_sub_cancel] at h2 ⊢
    rw [eSum, h2]
    simp only [ht, hb, if_true]
theorem LS.stop {n d : Int} {i : Nat} {l s : Int × Int} (h : LS n d i l s) (ht : fB (tmN n i) (tmD d i) = true) (hb : fB (s.1 * tD n d i + tN n d i * s.2) (s.2 * tD n d i) = false) : eSum n d i = none := by
  rcases h with ⟨rfl, rfl⟩ | ⟨h1, h2, _⟩
  · obtain ⟨e1, e2, _⟩ := term_zero (n := n) (d := d)
    rw [e1, e2] at hb; exact absurd hb (by decide)
  · obtain ⟨i, rfl⟩ : ∃ i', i = i' + 1 := ⟨i - 1, by omega⟩
    rw [Nat.add_sub_cancel] at h2
    rw [eSum, h2]
    simp [ht, hb]
theorem goodF_neg {n d : Int} (h : goodF n d = true) : goodF (-n) d = true := by
  obtain ⟨h1, h2, h3, h4, h5⟩ := goodF_bounds h
  simp [goodF, h1, h2, fg_neg_left, h5]; omega
theorem goodF_int {n : Int} (h : -1000000000 ≤ n ∧ n ≤ 1000000000) : goodF n 1 = true := by
  have : fg n 1 = 1 := by simp [fg]
  simp [goodF, this]; omega

set_option maxRecDepth 100000 in
set_option maxHeartbeats 12800000 in
theorem implExp_c (n d k : Int) (w : World) :
    Calls Try.prog 17 #[.agg #[.int .i64 n, .int .i64 d], .int .i64 k] w fun e w' => e = .returned (.tuple #[.agg #[.int .i64 (xbR n d k).1.1, .int .i64 (xbR n d k).1.2], .agg #[.int .i64 (xbR n d k).2.1, .int .i64 (xbR n d k).2.2], .bool (xbB n d k)]) ∧ Ext w w' := by
  have u0 := (((Ext.refl w).alloc (.cells #[.int .i64 n, .int .i64 d] 24)).alloc (.cells #[.int .i64 0, .int .i64 0] 24)).alloc (.cells #[.int .i64 0, .int .i64 0] 24)
  have b2 := ((Box.new w 24 #[.int .i64 n, .int .i64 d] rfl).alloc (.cells #[.int .i64 0, .int .i64 0] 24)).alloc (.cells #[.int .i64 0, .int .i64 0] 24)
  have b4 := (Box.new (w.alloc (.cells #[.int .i64 n, .int .i64 d] 24)) 24 #[.int .i64 0, .int .i64 0] (b := w.heap.size + 1) (by simp)).alloc (.cells #[.int .i64 0, .int .i64 0] 24)
  have b5 := Box.new ((w.alloc (.cells #[.int .i64 n, .int .i64 d] 24)).alloc (.cells #[.int .i64 0, .int .i64 0] 24)) 24 #[.int .i64 0, .int .i64 0] (b := w.heap.size + 2) (by simp)
  cases hc : (goodF n d && (decide (0 ≤ n) && decide (n ≤ d)))
  · have HX := Lib.hid (xb_none (n := n) (d := d) (k := k) (by simp [xbO, xOk, hc]))
    rw [HX.out.1, HX.out.2]
    have HC := Lib.hid hc; clear hc
    go_enter Try.func17, Try.ntmps17
    go_wp2_with fail
    refine (isChance_b false n d _ HC.out).mono ?_
    rintro e w1 ⟨rfl, u1⟩
    have x4 := b4.ext u1
    have x5 := b5.ext u1
    have e40 := x4.cell 0 (by simp)
    have e41 := x4.cell 1 (by simp)
    have e50 := x5.cell 0 (by simp)
    have e51 := x5.cell 1 (by simp)
    have f0 := x4.free 0
    have f1 := x4.free 1
    have f2 := x5.free 0
    have f3 := x5.free 1
    have ux := u0.trans u1
    go_wp2
    refine bodyPost_ret (v := .tuple #[.agg #[.int .i64 0, .int .i64 0], .agg #[.int .i64 0, .int .i64 0], .bool false]) (by simp [results, Try.results17, go_sem, e40, e41, e50, e51]) rfl ⟨rfl, ?_⟩
    exact (((ux.setCell _ (by simp)).setCell _ (by simp)).setCell _ (by simp; omega)).setCell _ (by simp; omega)
  by_cases hk : 1 ≤ k ∧ k ≤ 6
  case neg =>
    have HX := Lib.hid (xb_none (n := n) (d := d) (k := k) (by
      have : (decide (1 ≤ k) && decide (k ≤ 6)) = false := by
        cases h : (decide (1 ≤ k) && decide (k ≤ 6)); · rfl
        · exact absurd (by simpa using h) hk
      simp [xbO, xOk, this]))
    rw [HX.out.1, HX.out.2]
    have HC := Lib.hid hc; clear hc
    by_cases h1 : k < 1
    · go_enter Try.func17, Try.ntmps17
      go_wp2_with fail
      refine (isChance_b true n d _ HC.out).mono ?_
      rintro e w1 ⟨rfl, u1⟩
      have x4 := b4.ext u1
      have x5 := b5.ext u1
      have e40 := x4.cell 0 (by simp)
      have e41 := x4.cell 1 (by simp)
      have e50 := x5.cell 0 (by simp)
      have e51 := x5.cell 1 (by simp)
      have f0 := x4.free 0
      have f1 := x4.free 1
      have f2 := x5.free 0
      have f3 := x5.free 1
      have ux := u0.trans u1
      go_wp2
      refine bodyPost_ret (v := .tuple #[.agg #[.int .i64 0, .int .i64 0], .agg #[.int .i64 0, .int .i64 0], .bool false]) (by simp [results, Try.results17, go_sem, e40, e41, e50, e51]) rfl ⟨rfl, ?_⟩
      exact (((ux.setCell _ (by simp)).setCell _ (by simp)).setCell _ (by simp; omega)).setCell _ (by simp; omega)
    · have h2 : 6 < k := by omega
      go_enter Try.func17, Try.ntmps17
      go_wp2_with fail
      refine (isChance_b true n d _ HC.out).mono ?_
      rintro e w1 ⟨rfl, u1⟩
      have x4 := b4.ext u1
      have x5 := b5.ext u1
      have e40 := x4.cell 0 (by simp)
      have e41 := x4.cell 1 (by simp)
      have e50 := x5.cell 0 (by simp)
      have e51 := x5.cell 1 (by simp)
      have f0 := x4.free 0
      have f1 := x4.free 1
      have f2 := x5.free 0
      have f3 := x5.free 1
      have ux := u0.trans u1
      go_wp2
      refine bodyPost_ret (v := .tuple #[.agg #[.int .i64 0, .int .i64 0], .agg #[.int .i64 0, .int .i64 0], .bool false]) (by simp [results, Try.results17, go_sem, e40, e41, e50, e51]) rfl ⟨rfl, ?_⟩
      exact (((ux.setCell _ (by simp)).setCell _ (by simp)).setCell _ (by simp; omega)).setCell _ (by simp; omega)
  obtain ⟨K, rfl⟩ : ∃ K : Nat, k = K := ⟨k.toNat, by omega⟩
  have hK1 : 1 ≤ K := by omega
  have hK6 : K ≤ 6 := by omega
  have HXN : Hid (eSum n d (2 * K) = none → xbO n d K = none) := Lib.hid (fun h => by
    have hx : xOk n d K = true := by simp only [xOk, hc]; simp; omega
    unfold xbO
    rw [if_pos hx, Int.toNat_natCast, h])
  have HXS : Hid (∀ l s, eSum n d (2 * K) = some s → eSum n d (2 * K - 1) = some l → xbO n d K = some (l, s)) := Lib.hid (fun l s h1 h2 => by
    have hx : xOk n d K = true := by simp only [xOk, hc]; simp; omega
    unfold xbO
    rw [if_pos hx, Int.toNat_natCast, h1, h2]; rfl)
  have hgn := Bool.and_eq_true_iff.1 hc
  have hnd : 0 ≤ n ∧ n ≤ d := by simpa using hgn.2
  have HGN := Lib.hid hgn.1
  obtain ⟨gb1, gb2, gb3, gb4, _⟩ := goodF_bounds hgn.1
  have HC := Lib.hid hc; clear hc hgn
  have HNEG := Lib.hid (goodF_neg HGN.out)
  obtain ⟨R, hR⟩ : ∃ R, xbR n d K = R := ⟨_, rfl⟩
  obtain ⟨RB, hRB⟩ : ∃ R, xbB n d K = R := ⟨_, rfl⟩
  rw [hR, hRB]
  have HRN : Hid (eSum n d (2 * K) = none → R = ((0, 0), (0, 0)) ∧ RB = false) := Lib.hid (fun h => by rw [← hR, ← hRB]; exact xb_none (HXN.out h))
  have HRS : Hid (∀ l s, eSum n d (2 * K) = some s → eSum n d (2 * K - 1) = some l → R = (l, s) ∧ RB = true) := Lib.hid (fun l s h1 h2 => by rw [← hR, ← hRB]; exact xb_some (HXS.out l s h1 h2))
  clear hR hRB HXN HXS
  have k1 : ¬ ((K : Int) < 1) := by omega
  have k2 : ¬ ((6 : Int) < (K : Int)) := by omega
  have kw1 : IntKind.i64.wrap (2 * (K : Int)) = 2 * (K : Int) := IntWalk.i64_in _ (by omega)
  have kw2 : IntKind.i64.wrap (2 * (K : Int) + 1) = 2 * (K : Int) + 1 := IntWalk.i64_in _ (by omega)
  have kw3 : IntKind.i64.wrap (-n) = -n := IntWalk.i64_in _ (by omega)
  go_enter Try.func17, Try.ntmps17
  go_wp2_with fail
  refine (isChance_b true n d _ HC.out).mono ?_
  rintro e w1 ⟨rfl, u1⟩
  have x2 := b2.ext u1
  have x4 := b4.ext u1
  have x5 := b5.ext u1
  have y2 := (x2.alloc (.cells #[.int .i64 0, .int .i64 1] 24)).alloc (.cells #[.int .i64 0, .int .i64 0] 24)
  have e20 := y2.cell 0 (by simp)
  have e21 := y2.cell 1 (by simp)
  have b7 := ((Box.new w1 24 #[.int .i64 0, .int .i64 1] rfl).alloc (.cells #[.int .i64 0, .int .i64 0] 24)).alloc (.cells #[.int .i64 (-n), .int .i64 d] 24)
  have b8 := (Box.new (w1.alloc (.cells #[.int .i64 0, .int .i64 1] 24)) 24 #[.int .i64 0, .int .i64 0] (b := w1.heap.size + 1) (by simp)).alloc (.cells #[.int .i64 (-n), .int .i64 d] 24)
  have b9 := Box.new ((w1.alloc (.cells #[.int .i64 0, .int .i64 1] 24)).alloc (.cells #[.int .i64 0, .int .i64 0] 24)) 24 #[.int .i64 (-n), .int .i64 d] (b := w1.heap.size + 2) (by simp)
  have uq := (((Ext.refl w1).alloc (.cells #[.int .i64 0, .int .i64 1] 24)).alloc (.cells #[.int .i64 0, .int .i64 0] 24)).alloc (.cells #[.int .i64 (-n), .int .i64 d] 24)
  have ux := u0.trans u1
  have sw1 : w.heap.size + 3 ≤ w1.heap.size := by have := u1.size; simp at this; omega
  go_wp2
  go_loopw [39, 10] (fun v f wr => ∃ (i : Nat) (l s : Int × Int), i ≤ 2 * K + 1 ∧ v = .int .i64 i ∧ f = .int .i64 (facI (i - 1)) ∧ LS n d i l s ∧ Box wr w1.heap.size 24 #[.int .i64 s.1, .int .i64 s.2] ∧ Box wr (w1.heap.size + 1) 24 #[.int .i64 l.1, .int .i64 l.2] ∧ Box wr (w1.heap.size + 2) 24 #[.int .i64 (-n), .int .i64 d] ∧ Ext w1 wr) (fun v _ _ => 2 * K + 1 - (intOf v).toNat)
  case atStart => exact ⟨0, (0, 0), (0, 1), Nat.zero_le _, rfl, rfl, .inl ⟨rfl, rfl⟩, b7, b8, b9, uq⟩
  case round =>
    clear b7 b8 b9 uq e20 e21 y2
    obtain ⟨i, l, s, hi, rfl, rfl, hls, h7, h8, h9, hx⟩ := hrel
    obtain ⟨wo, rfl⟩ : ∃ wo : World, wo = wr := ⟨_, rfl⟩
    have z4 := x4.ext hx
    have z5 := x5.ext hx
    have HLS := Lib.hid hls; clear hls
    have hsg := HLS.out.good gb1
    have HSG := Lib.hid hsg; clear hsg
    obtain ⟨s1, s2⟩ := s
    obtain ⟨l1, l2⟩ := l
    have hxw := ux.trans hx
    have hsx := hx.size
    by_cases hlt : i < 2 * K + 1
    case neg =>
      have hi2 : i = 2 * K + 1 := by omega
      have HRR : Hid (R = ((l1, l2), (s1, s2)) ∧ RB = true) := Lib.hid (by
        rcases HLS.out with ⟨h1, _⟩ | ⟨h1, h2, h3⟩
        · omega
        · refine HRS.out _ _ (by rw [hi2] at h2; simpa using h2) ?_
          have := h3 (by omega)
          rw [hi2] at this
          have e : 2 * K + 1 - 2 = 2 * K - 1 := by omega
          rw [e] at this; exact this)
      have e70 := h7.cell 0 (by simp)
      have e71 := h7.cell 1 (by simp)
      have e80 := h8.cell 0 (by simp)
      have e81 := h8.cell 1 (by simp)
      have e40 := z4.cell 0 (by simp)
      have e41 := z4.cell 1 (by simp)
      have e50 := z5.cell 0 (by simp)
      have e51 := z5.cell 1 (by simp)
      have f0 := z4.free 0
      have f1 := z4.free 1
      have f2 := z5.free 0
      have f3 := z5.free 1
      have hni : ¬ ((i : Int) < 2 * (K : Int) + 1) := by omega
      clear h7 h8 h9 hi2
      go_wp2_with fail
      go_region
      go_wp2
      refine bodyPost_ret (v := .tuple #[.agg #[.int .i64 l1, .int .i64 l2], .agg #[.int .i64 s1, .int .i64 s2], .bool true]) (by simp [results, Try.results17, go_sem, e40, e41, e50, e51]) rfl ⟨by rw [HRR.out.1, HRR.out.2], ?_⟩
      exact ((((hxw.setCell _ (by simp)).setCell _ (by simp)).setCell _ (by simp; omega)).setCell _ (by simp; omega)).drew
    have hpi : (i : Int) < 2 * (K : Int) + 1 := by omega
    have HPW : Hid (∀ j, j < i → fB (pwI (-n) j) (pwI d j) = true) := Lib.hid (fun j hj => pw_ok hnd.1 hnd.2 gb1 (HLS.out.terms j hj))
    have hfp := facI_pos i
    have hfl := facI_le (i := i) (by omega)
    have HGF := Lib.hid (goodF_int (n := facI i) (by omega))
    have e90 := h9.cell 0 (by simp)
    have e91 := h9.cell 1 (by simp)
    by_cases h0 : i = 0
    · have hF : facI (i - 1) = facI i := by rw [h0]
      have hb0 : ¬ (0 : Int) < (i : Int) := by omega
      rw [hF]
      clear hF h0
      go_wp2_with fail
      refine (PowFrac_c (-n) d i _ HNEG.out (by omega) HPW.out).mono ?_
      rintro e w3 ⟨rfl, u3⟩
      clear e90 e91
      cases hz : fB (pwI (-n) i) (pwI d i)
      · have hnt : fB (tmN n i) (tmD d i) = false := by
          cases h : fB (tmN n i) (tmD d i)
          · rfl
          · have := pw_ok hnd.1 hnd.2 gb1 h; rw [hz] at this; cases this
        have hv : fVN (pwI (-n) i) (pwI d i) = 0 ∧ fVD (pwI (-n) i) (pwI d i) = 0 := by unfold fVN fVD; rw [hz]; exact ⟨rfl, rfl⟩
        rw [hv.1, hv.2]
        have HNT := Lib.hid hnt
        clear hz hv hnt
        have ua := u3.alloc (.cells #[.int .i64 0, .int .i64 0] 24)
        have HRZ := Lib.hid (HRN.out (eSum_stop (by omega) HNT.out))
        have y4 := z4.ext (ua)
        have y5 := z5.ext (ua)
        have e40 := y4.cell 0 (by simp)
        have e41 := y4.cell 1 (by simp)
        have e50 := y5.cell 0 (by simp)
        have e51 := y5.cell 1 (by simp)
        have f0 := y4.free 0
        have f1 := y4.free 1
        have f2 := y5.free 0
        have f3 := y5.free 1
        have hux := hxw.trans ua
        go_wp2
        refine bodyPost_ret (v := .tuple #[.agg #[.int .i64 0, .int .i64 0], .agg #[.int .i64 0, .int .i64 0], .bool false]) (by simp [results, Try.results17, go_sem, e40, e41, e50, e51]) rfl ⟨by rw [HRZ.out.1, HRZ.out.2], ?_⟩
        exact (((hux.setCell _ (by simp)).setCell _ (by simp)).setCell _ (by simp; omega)).setCell _ (by simp; omega)
      have hpv := pow_val gb1 hz
      obtain ⟨P, hP⟩ : ∃ P, fVN (pwI (-n) i) (pwI d i) = P := ⟨_, rfl⟩
      obtain ⟨Q, hQ'⟩ : ∃ Q, fVD (pwI (-n) i) (pwI d i) = Q := ⟨_, rfl⟩
      rw [hP, hQ'] at hpv ⊢
      clear hz hP hQ'
      have hQ1 := (goodF_bounds hpv.1).1
      have HT := Lib.hid (term_of_pow gb1 hQ1 hpv.2)
      have HGP := Lib.hid hpv.1
      clear hpv
      have ua := u3.alloc (.cells #[.int .i64 P, .int .i64 Q] 24)
      go_wp2_with fail
      refine (DivFrac_y P Q (facI i) 1 _ HGP.out HGF.out (by omega)).mono ?_
      rw [HT.out.1, HT.out.2.1, HT.out.2.2]
      rintro e w4 ⟨rfl, u4⟩
      have ub := (ua.trans u4).alloc (.cells #[.int .i64 (tN n d i), .int .i64 (tD n d i)] 24)
      cases ht : fB (tmN n i) (tmD d i)
      · have HNT := Lib.hid ht
        clear ht
        have HRZ := Lib.hid (HRN.out (eSum_stop (by omega) HNT.out))
        have y4 := z4.ext (ub)
        have y5 := z5.ext (ub)
        have e40 := y4.cell 0 (by simp)
        have e41 := y4.cell 1 (by simp)
        have e50 := y5.cell 0 (by simp)
        have e51 := y5.cell 1 (by simp)
        have f0 := y4.free 0
        have f1 := y4.free 1
        have f2 := y5.free 0
        have f3 := y5.free 1
        have hux := hxw.trans ub
        go_wp2
        refine bodyPost_ret (v := .tuple #[.agg #[.int .i64 0, .int .i64 0], .agg #[.int .i64 0, .int .i64 0], .bool false]) (by simp [results, Try.results17, go_sem, e40, e41, e50, e51]) rfl ⟨by rw [HRZ.out.1, HRZ.out.2], ?_⟩
        exact (((hux.setCell _ (by simp)).setCell _ (by simp)).setCell _ (by simp; omega)).setCell _ (by simp; omega)
      obtain ⟨A, hA⟩ : ∃ A, tN n d i = A := ⟨_, rfl⟩
      obtain ⟨B, hB⟩ : ∃ B, tD n d i = B := ⟨_, rfl⟩
      have HAB := Lib.hid (And.intro hA hB)
      have HTG := Lib.hid (term_good gb1 ht).1
      have HTT := Lib.hid ht
      rw [hA, hB] at HTG ub ⊢
      have hsu := ub.size
      clear ht hA hB
      obtain ⟨wu, hwu⟩ : ∃ wu, w4.alloc (.cells #[.int .i64 A, .int .i64 B] 24) = wu := ⟨_, rfl⟩
      have b14 := Box.new w4 24 #[.int .i64 A, .int .i64 B] rfl
      have s14 : wo.heap.size ≤ w4.heap.size := (ua.trans u4).size
      rw [hwu] at ub b14 hsu
      have y7 := h7.ext ub
      have y8 := h8.ext ub
      have y9 := h9.ext ub
      have e70 := y7.cell 0 (by simp)
      have e71 := y7.cell 1 (by simp)
      have e80 := y8.cell 0 (by simp)
      have e81 := y8.cell 1 (by simp)
      have f80 := y8.free 0
      have f81 := y8.free 1
      have hl7 := h7.lt
      have hl8 := h8.lt
      have hl9 := h9.lt
      obtain ⟨wv, hwv⟩ : ∃ wv, (wu.setCell ⟨w1.heap.size + 1, 0, none⟩ (.int .i64 s1)).setCell ⟨w1.heap.size + 1, 1, none⟩ (.int .i64 s2) = wv := ⟨_, rfl⟩
      have UV : Upd (fun z => z = w1.heap.size + 1) wu wv := by rw [← hwv]; exact ((Upd.refl (S := fun z => z = w1.heap.size + 1) wu).setCell (a := ⟨w1.heap.size + 1, 0, none⟩) _ (fun _ => rfl)).setCell (a := ⟨w1.heap.size + 1, 1, none⟩) _ (fun _ => rfl)
      have v8 : Box wv (w1.heap.size + 1) 24 #[.int .i64 s1, .int .i64 s2] := by rw [← hwv]; exact (y8.set 0 (.int .i64 s1)).set 1 (.int .i64 s2)
      have v7 := y7.upd UV (by omega)
      have v9 := y9.upd UV (by omega)
      have v14 := b14.upd UV (by omega)
      have xv : Ext w1 wv := (hx.trans ub).of_upd UV (fun b hb => by omega)
      have v4 := x4.ext xv
      have v5 := x5.ext xv
      have g70 := v7.cell 0 (by simp)
      have g71 := v7.cell 1 (by simp)
      have g140 := v14.cell 0 (by simp)
      have g141 := v14.cell 1 (by simp)
      clear h7 h8 h9 y7 y8 y9
      go_wp2_with fail
      try rw [hwv]
      clear hwv hwu
      refine (AddFrac_y s1 s2 A B _ HSG.out HTG.out).mono ?_
      rintro e w6 ⟨rfl, u6⟩
      clear e70 e71 e80 e81 f80 f81 g70 g71 g140 g141
      have q7 := v7.ext u6
      have e70 := q7.cell 0 (by simp)
      have e71 := q7.cell 1 (by simp)
      have f70 := q7.free 0
      have f71 := q7.free 1
      cases hs : fB (s1 * B + A * s2) (s2 * B)
      · have HNN : Hid (eSum n d i = none) := Lib.hid (HLS.out.stop HTT.out (by rw [HAB.out.1, HAB.out.2]; exact hs))
        have hv : fVN (s1 * B + A * s2) (s2 * B) = 0 ∧ fVD (s1 * B + A * s2) (s2 * B) = 0 := by unfold fVN fVD; rw [hs]; exact ⟨rfl, rfl⟩
        rw [hv.1, hv.2]
        clear hv hs
        have HRZ := Lib.hid (HRN.out (eSum_none HNN.out (2 * K) (by omega)))
        obtain ⟨wz, hwz⟩ : ∃ wz, (w6.setCell ⟨w1.heap.size, 0, none⟩ (.int .i64 0)).setCell ⟨w1.heap.size, 1, none⟩ (.int .i64 0) = wz := ⟨_, rfl⟩
        have UZ : Upd (fun z => z = w1.heap.size) w6 wz := by rw [← hwz]; exact ((Upd.refl (S := fun z => z = w1.heap.size) w6).setCell (a := ⟨w1.heap.size, 0, none⟩) _ (fun _ => rfl)).setCell (a := ⟨w1.heap.size, 1, none⟩) _ (fun _ => rfl)
        have xz : Ext w1 wz := (xv.trans u6).of_upd UZ (fun b hb => by omega)
        have y4 := x4.ext xz
        have y5 := x5.ext xz
        have e40 := y4.cell 0 (by simp)
        have e41 := y4.cell 1 (by simp)
        have e50 := y5.cell 0 (by simp)
        have e51 := y5.cell 1 (by simp)
        have f0 := y4.free 0
        have f1 := y4.free 1
        have f2 := y5.free 0
        have f3 := y5.free 1
        have hux := ux.trans xz
        go_wp2
        refine bodyPost_ret (v := .tuple #[.agg #[.int .i64 0, .int .i64 0], .agg #[.int .i64 0, .int .i64 0], .bool false]) (by simp [results, Try.results17, go_sem, e40, e41, e50, e51]) rfl ⟨by rw [HRZ.out.1, HRZ.out.2], ?_⟩
        exact (((hux.setCell _ (by simp)).setCell _ (by simp)).setCell _ (by simp; omega)).setCell _ (by simp; omega)
      have HNL := Lib.hid (HLS.out.next HTT.out (by rw [HAB.out.1, HAB.out.2]; exact hs))
      rw [HAB.out.1, HAB.out.2] at HNL
      clear hs
      obtain ⟨C, hC⟩ : ∃ C, fVN (s1 * B + A * s2) (s2 * B) = C := ⟨_, rfl⟩
      obtain ⟨D, hD⟩ : ∃ D, fVD (s1 * B + A * s2) (s2 * B) = D := ⟨_, rfl⟩
      simp only [hC, hD] at HNL
      rw [hC, hD]
      clear hC hD
      obtain ⟨wz, hwz⟩ : ∃ wz, (w6.setCell ⟨w1.heap.size, 0, none⟩ (.int .i64 C)).setCell ⟨w1.heap.size, 1, none⟩ (.int .i64 D) = wz := ⟨_, rfl⟩
      have UZ : Upd (fun z => z = w1.heap.size) w6 wz := by rw [← hwz]; exact ((Upd.refl (S := fun z => z = w1.heap.size) w6).setCell (a := ⟨w1.heap.size, 0, none⟩) _ (fun _ => rfl)).setCell (a := ⟨w1.heap.size, 1, none⟩) _ (fun _ => rfl)
      have xz : Ext w1 wz := (xv.trans u6).of_upd UZ (fun b hb => by omega)
      have r7 : Box wz w1.heap.size 24 #[.int .i64 C, .int .i64 D] := by rw [← hwz]; exact (q7.set 0 (.int .i64 C)).set 1 (.int .i64 D)
      have r8 := (v8.ext u6).upd UZ (by omega)
      have r9 := (v9.ext u6).upd UZ (by omega)
      go_wp2
      go_roundw
      case rel => exact ⟨i + 1, (s1, s2), (C, D), by omega, by go_num, rfl, HNL.out, r7, r8, r9, xz⟩
      case measure => simp [intOf]; omega
    · have hfw : IntKind.i64.wrap (facI (i - 1) * (i : Int)) = facI i := by
        obtain ⟨j, rfl⟩ : ∃ j, i = j + 1 := ⟨i - 1, by omega⟩
        have e : facI (j + 1 - 1) * ((j + 1 : Nat) : Int) = facI (j + 1) := by rw [Nat.add_sub_cancel]; simp [facI]
        rw [e]; exact IntWalk.i64_in _ (by omega)
      have hb0 : (0 : Int) < (i : Int) := by omega
      clear h0
      go_wp2_with fail
      refine (PowFrac_c (-n) d i _ HNEG.out (by omega) HPW.out).mono ?_
      rintro e w3 ⟨rfl, u3⟩
      clear e90 e91
      cases hz : fB (pwI (-n) i) (pwI d i)
      · have hnt : fB (tmN n i) (tmD d i) = false := by
          cases h : fB (tmN n i) (tmD d i)
          · rfl
          · have := pw_ok hnd.1 hnd.2 gb1 h; rw [hz] at this; cases this
        have hv : fVN (pwI (-n) i) (pwI d i) = 0 ∧ fVD (pwI (-n) i) (pwI d i) = 0 := by unfold fVN fVD; rw [hz]; exact ⟨rfl, rfl⟩
        rw [hv.1, hv.2]
        have HNT := Lib.hid hnt
        clear hz hv hnt
        have ua := u3.alloc (.cells #[.int .i64 0, .int .i64 0] 24)
        have HRZ := Lib.hid (HRN.out (eSum_stop (by omega) HNT.out))
        have y4 := z4.ext (ua)
        have y5 := z5.ext (ua)
        have e40 := y4.cell 0 (by simp)
        have e41 := y4.cell 1 (by simp)
        have e50 := y5.cell 0 (by simp)
        have e51 := y5.cell 1 (by simp)
        have f0 := y4.free 0
        have f1 := y4.free 1
        have f2 := y5.free 0
        have f3 := y5.free 1
        have hux := hxw.trans ua
        go_wp2
        refine bodyPost_ret (v := .tuple #[.agg #[.int .i64 0, .int .i64 0], .agg #[.int .i64 0, .int .i64 0], .bool false]) (by simp [results, Try.results17, go_sem, e40, e41, e50, e51]) rfl ⟨by rw [HRZ.out.1, HRZ.out.2], ?_⟩
        exact (((hux.setCell _ (by simp)).setCell _ (by simp)).setCell _ (by simp; omega)).setCell _ (by simp; omega)
      have hpv := pow_val gb1 hz
      obtain ⟨P, hP⟩ : ∃ P, fVN (pwI (-n) i) (pwI d i) = P := ⟨_, rfl⟩
      obtain ⟨Q, hQ'⟩ : ∃ Q, fVD (pwI (-n) i) (pwI d i) = Q := ⟨_, rfl⟩
      rw [hP, hQ'] at hpv ⊢
      clear hz hP hQ'
      have hQ1 := (goodF_bounds hpv.1).1
      have HT := Lib.hid (term_of_pow gb1 hQ1 hpv.2)
      have HGP := Lib.hid hpv.1
      clear hpv
      have ua := u3.alloc (.cells #[.int .i64 P, .int .i64 Q] 24)
      go_wp2_with fail
      refine (DivFrac_y P Q (facI i) 1 _ HGP.out HGF.out (by omega)).mono ?_
      rw [HT.out.1, HT.out.2.1, HT.out.2.2]
      rintro e w4 ⟨rfl, u4⟩
      have ub := (ua.trans u4).alloc (.cells #[.int .i64 (tN n d i), .int .i64 (tD n d i)] 24)
      cases ht : fB (tmN n i) (tmD d i)
      · have HNT := Lib.hid ht
        clear ht
        have HRZ := Lib.hid (HRN.out (eSum_stop (by omega) HNT.out))
        have y4 := z4.ext (ub)
        have y5 := z5.ext (ub)
        have e40 := y4.cell 0 (by simp)
        have e41 := y4.cell 1 (by simp)
        have e50 := y5.cell 0 (by simp)
        have e51 := y5.cell 1 (by simp)
        have f0 := y4.free 0
        have f1 := y4.free 1
        have f2 := y5.free 0
        have f3 := y5.free 1
        have hux := hxw.trans ub
        go_wp2
        refine bodyPost_ret (v := .tuple #[.agg #[.int .i64 0, .int .i64 0], .agg #[.int .i64 0, .int .i64 0], .bool false]) (by simp [results, Try.results17, go_sem, e40, e41, e50, e51]) rfl ⟨by rw [HRZ.out.1, HRZ.out.2], ?_⟩
        exact (((hux.setCell _ (by simp)).setCell _ (by simp)).setCell _ (by simp; omega)).setCell _ (by simp; omega)
      obtain ⟨A, hA⟩ : ∃ A, tN n d i = A := ⟨_, rfl⟩
      obtain ⟨B, hB⟩ : ∃ B, tD n d i = B := ⟨_, rfl⟩
      have HAB := Lib.hid (And.intro hA hB)
      have HTG := Lib.hid (term_good gb1 ht).1
      have HTT := Lib.hid ht
      rw [hA, hB] at HTG ub ⊢
      have hsu := ub.size
      clear ht hA hB
      obtain ⟨wu, hwu⟩ : ∃ wu, w4.alloc (.cells #[.int .i64 A, .int .i64 B] 24) = wu := ⟨_, rfl⟩
      have b14 := Box.new w4 24 #[.int .i64 A, .int .i64 B] rfl
      have s14 : wo.heap.size ≤ w4.heap.size := (ua.trans u4).size
      rw [hwu] at ub b14 hsu
      have y7 := h7.ext ub
      have y8 := h8.ext ub
      have y9 := h9.ext ub
      have e70 := y7.cell 0 (by simp)
      have e71 := y7.cell 1 (by simp)
      have e80 := y8.cell 0 (by simp)
      have e81 := y8.cell 1 (by simp)
      have f80 := y8.free 0
      have f81 := y8.free 1
      have hl7 := h7.lt
      have hl8 := h8.lt
      have hl9 := h9.lt
      obtain ⟨wv, hwv⟩ : ∃ wv, (wu.setCell ⟨w1.heap.size + 1, 0, none⟩ (.int .i64 s1)).setCell ⟨w1.heap.size + 1, 1, none⟩ (.int .i64 s2) = wv := ⟨_, rfl⟩
      have UV : Upd (fun z => z = w1.heap.size + 1) wu wv := by rw [← hwv]; exact ((Upd.refl (S := fun z => z = w1.heap.size + 1) wu).setCell (a := ⟨w1.heap.size + 1, 0, none⟩) _ (fun _ => rfl)).setCell (a := ⟨w1.heap.size + 1, 1, none⟩) _ (fun _ => rfl)
      have v8 : Box wv (w1.heap.size + 1) 24 #[.int .i64 s1, .int .i64 s2] := by rw [← hwv]; exact (y8.set 0 (.int .i64 s1)).set 1 (.int .i64 s2)
      have v7 := y7.upd UV (by omega)
      have v9 := y9.upd UV (by omega)
      have v14 := b14.upd UV (by omega)
      have xv : Ext w1 wv := (hx.trans ub).of_upd UV (fun b hb => by omega)
      have v4 := x4.ext xv
      have v5 := x5.ext xv
      have g70 := v7.cell 0 (by simp)
      have g71 := v7.cell 1 (by simp)
      have g140 := v14.cell 0 (by simp)
      have g141 := v14.cell 1 (by simp)
      clear h7 h8 h9 y7 y8 y9
      go_wp2_with fail
      try rw [hwv]
      clear hwv hwu
      refine (AddFrac_y s1 s2 A B _ HSG.out HTG.out).mono ?_
      rintro e w6 ⟨rfl, u6⟩
      clear e70 e71 e80 e81 f80 f81 g70 g71 g140 g141
      have q7 := v7.ext u6
      have e70 := q7.cell 0 (by simp)
      have e71 := q7.cell 1 (by simp)
      have f70 := q7.free 0
      have f71 := q7.free 1
      cases hs : fB (s1 * B + A * s2) (s2 * B)
      · have HNN : Hid (eSum n d i = none) := Lib.hid (HLS.out.stop HTT.out (by rw [HAB.out.1, HAB.out.2]; exact hs))
        have hv : fVN (s1 * B + A * s2) (s2 * B) = 0 ∧ fVD (s1 * B + A * s2) (s2 * B) = 0 := by unfold fVN fVD; rw [hs]; exact ⟨rfl, rfl⟩
        rw [hv.1, hv.2]
        clear hv hs
        have HRZ := Lib.hid (HRN.out (eSum_none HNN.out (2 * K) (by omega)))
        obtain ⟨wz, hwz⟩ : ∃ wz, (w6.setCell ⟨w1.heap.size, 0, none⟩ (.int .i64 0)).setCell ⟨w1.heap.size, 1, none⟩ (.int .i64 0) = wz := ⟨_, rfl⟩
        have UZ : Upd (fun z => z = w1.heap.size) w6 wz := by rw [← hwz]; exact ((Upd.refl (S := fun z => z = w1.heap.size) w6).setCell (a := ⟨w1.heap.size, 0, none⟩) _ (fun _ => rfl)).setCell (a := ⟨w1.heap.size, 1, none⟩) _ (fun _ => rfl)
        have xz : Ext w1 wz := (xv.trans u6).of_upd UZ (fun b hb => by omega)
        have y4 := x4.ext xz
        have y5 := x5.ext xz
        have e40 := y4.cell 0 (by simp)
        have e41 := y4.cell 1 (by simp)
        have e50 := y5.cell 0 (by simp)
        have e51 := y5.cell 1 (by simp)
        have f0 := y4.free 0
        have f1 := y4.free 1
        have f2 := y5.free 0
        have f3 := y5.free 1
        have hux := ux.trans xz
        go_wp2
        refine bodyPost_ret (v := .tuple #[.agg #[.int .i64 0, .int .i64 0], .agg #[.int .i64 0, .int .i64 0], .bool false]) (by simp [results, Try.results17, go_sem, e40, e41, e50, e51]) rfl ⟨by rw [HRZ.out.1, HRZ.out.2], ?_⟩
        exact (((hux.setCell _ (by simp)).setCell _ (by simp)).setCell _ (by simp; omega)).setCell _ (by simp; omega)
      have HNL := Lib.hid (HLS.out.next HTT.out (by rw [HAB.out.1, HAB.out.2]; exact hs))
      rw [HAB.out.1, HAB.out.2] at HNL
      clear hs
      obtain ⟨C, hC⟩ : ∃ C, fVN (s1 * B + A * s2) (s2 * B) = C := ⟨_, rfl⟩
      obtain ⟨D, hD⟩ : ∃ D, fVD (s1 * B + A * s2) (s2 * B) = D := ⟨_, rfl⟩
      simp only [hC, hD] at HNL
      rw [hC, hD]
      clear hC hD
      obtain ⟨wz, hwz⟩ : ∃ wz, (w6.setCell ⟨w1.heap.size, 0, none⟩ (.int .i64 C)).setCell ⟨w1.heap.size, 1, none⟩ (.int .i64 D) = wz := ⟨_, rfl⟩
      have UZ : Upd (fun z => z = w1.heap.size) w6 wz := by rw [← hwz]; exact ((Upd.refl (S := fun z => z = w1.heap.size) w6).setCell (a := ⟨w1.heap.size, 0, none⟩) _ (fun _ => rfl)).setCell (a := ⟨w1.heap.size, 1, none⟩) _ (fun _ => rfl)
      have xz : Ext w1 wz := (xv.trans u6).of_upd UZ (fun b hb => by omega)
      have r7 : Box wz w1.heap.size 24 #[.int .i64 C, .int .i64 D] := by rw [← hwz]; exact (q7.set 0 (.int .i64 C)).set 1 (.int .i64 D)
      have r8 := (v8.ext u6).upd UZ (by omega)
      have r9 := (v9.ext u6).upd UZ (by omega)
      go_wp2
      go_roundw
      case rel => exact ⟨i + 1, (s1, s2), (C, D), by omega, by go_num, rfl, HNL.out, r7, r8, r9, xz⟩
      case measure => simp [intOf]; omega
end Go.Proofs.Ytmhofeljieicaaa
