/- NeedsPartners, the spec's and the program's. -/
import Derived.Test.YtmffhipfodlomaaPos
namespace Go.Proofs.Ytmffhipfodlomaa
open Go.RowKit

noncomputable def needsB (x p q : List (List Int)) : Bool := pubB x p && (pubB x q && coversB p q)
noncomputable def needsV (x p q : List (List Int)) : Bool := needsB x p q && aloneB p q
theorem pat_tame {x p : List (List Int)} (h : pubB x p = true) : Tame p := by
  have g := pubB_shape h
  simp only [pubB, patB, Bool.and_eq_true] at h
  have g2 := gridB_true.1 h.2.1
  refine ⟨by omega, fun i hi => ⟨by have := (g2.2.2.2.2 i hi).1; omega, fun j hj => ?_⟩⟩
  have := gridB_elem h.2.1 hi hj
  omega

set_option maxHeartbeats 1600000 in
theorem vInput_b (b : Bool) (v1 v2 v3 : Value) (x p q : List (List Int)) (w : World) (hb : needsB x p q = b) (h1 : Grid w v1 x) (h2 : Grid w v2 p) (h3 : Grid w v3 q) :
    Calls Try.prog 80 #[v1, v2, v3] w fun e w' => e = .returned (.bool b) ∧ Ext w w' := by
  have H1 := Lib.hid h1; clear h1
  have H2 := Lib.hid h2; clear h2
  have H3 := Lib.hid h3; clear h3
  cases hp : pubB x p
  · simp only [needsB, hp, Bool.false_and] at hb
    subst hb
    have HP := Lib.hid hp; clear hp
    go_enter Try.func80, Try.ntmps80
    go_wp2_with fail
    refine (qPattern_b false _ _ x p _ HP.out H1.out H2.out).mono ?_
    rintro e w1 ⟨rfl, d1⟩
    go_wp2
    go_ret
    exact ⟨rfl, d1.ext⟩
  cases hq : pubB x q
  · simp only [needsB, hp, hq, Bool.true_and, Bool.false_and] at hb
    subst hb
    have HP := Lib.hid hp; clear hp
    have HQ := Lib.hid hq; clear hq
    go_enter Try.func80, Try.ntmps80
    go_wp2_with fail
    refine (qPattern_b true _ _ x p _ HP.out H1.out H2.out).mono ?_
    rintro e w1 ⟨rfl, d1⟩
    go_wp2_with fail
    refine (qPattern_b false _ _ x q _ HQ.out (H1.out.ext d1.ext) (H3.out.ext d1.ext)).mono ?_
    rintro e w2 ⟨rfl, d2⟩
    go_wp2
    go_ret
    exact ⟨rfl, d1.ext.trans d2.ext⟩
  have HL := Lib.hid (like_of hp hq)
  simp only [needsB, hp, hq, Bool.true_and] at hb
  have HB := Lib.hid hb; clear hb
  have HP := Lib.hid hp; clear hp
  have HQ := Lib.hid hq; clear hq
  go_enter Try.func80, Try.ntmps80
  go_wp2_with fail
  refine (qPattern_b true _ _ x p _ HP.out H1.out H2.out).mono ?_
  rintro e w1 ⟨rfl, d1⟩
  go_wp2_with fail
  refine (qPattern_b true _ _ x q _ HQ.out (H1.out.ext d1.ext) (H3.out.ext d1.ext)).mono ?_
  rintro e w2 ⟨rfl, d2⟩
  go_wp2_with fail
  refine (vContains_b b _ _ p q _ HB.out (H2.out.ext (d1.ext.trans d2.ext)) (H3.out.ext (d1.ext.trans d2.ext)) HL.out).mono ?_
  rintro e w3 ⟨rfl, rfl⟩
  go_wp2
  go_ret
  exact ⟨rfl, d1.ext.trans d2.ext⟩

set_option maxHeartbeats 1600000 in
theorem specNeeds_c (v1 : Value) (x : List (List Int)) (v2 : Value) (p : List (List Int)) (v3 : Value) (q : List (List Int)) (w : World) (h1 : Grid w v1 x) (h2 : Grid w v2 p) (h3 : Grid w v3 q) :
    Calls Try.prog 38 #[v1, v2, v3] w fun e w' => e = .returned (.tuple #[.bool (needsV x p q), .bool (needsB x p q)]) ∧ Ext w w' := by
  have H1 := Lib.hid h1; clear h1
  have H2 := Lib.hid h2; clear h2
  have H3 := Lib.hid h3; clear h3
  cases hb : needsB x p q
  · have hV : needsV x p q = false := by simp [needsV, hb]
    rw [hV]; clear hV
    have HB := Lib.hid hb; clear hb
    go_enter Try.func38, Try.ntmps38
    go_wp2_with fail
    refine (vInput_b false _ _ _ x p q _ HB.out H1.out H2.out H3.out).mono ?_
    rintro e w1 ⟨rfl, u1⟩
    go_wp2
    go_ret2
    exact ⟨rfl, u1⟩
  · have hV : needsV x p q = aloneB p q := by simp [needsV, hb]
    rw [hV]; clear hV
    obtain ⟨hp, hq, hc⟩ : pubB x p = true ∧ pubB x q = true ∧ coversB p q = true := by simpa only [needsB, Bool.and_eq_true] using hb
    have HL := Lib.hid (like_of hp hq)
    have HT := Lib.hid (pat_tame hp)
    clear hp hq hc
    have HB := Lib.hid hb; clear hb
    go_enter Try.func38, Try.ntmps38
    go_wp2_with fail
    refine (vInput_b true _ _ _ x p q _ HB.out H1.out H2.out H3.out).mono ?_
    rintro e w1 ⟨rfl, u1⟩
    go_wp2_with fail
    refine (vAlone_c _ _ p q _ (H2.out.ext u1) (H3.out.ext u1) HL.out HT.out).mono ?_
    rintro e w2 ⟨rfl, u2⟩
    go_wp2
    go_ret2
    exact ⟨rfl, u1.trans u2⟩

set_option maxHeartbeats 3200000 in
theorem implNeeds_c (v1 : Value) (x : List (List Int)) (v2 : Value) (p : List (List Int)) (v3 : Value) (q : List (List Int)) (w : World) (h1 : Grid w v1 x) (h2 : Grid w v2 p) (h3 : Grid w v3 q) :
    Calls Try.prog 39 #[v1, v2, v3] w fun e w' => e = .returned (.tuple #[.bool (needsV x p q), .bool (needsB x p q)]) ∧ Ext w w' := by
  have H1 := Lib.hid h1; clear h1
  have H2 := Lib.hid h2; clear h2
  have H3 := Lib.hid h3; clear h3
  cases hp : pubB x p
  · have hB : needsB x p q = false := by simp [needsB, hp]
    have hV : needsV x p q = false := by simp [needsV, hB]
    rw [hV, hB]; clear hV hB
    have HP := Lib.hid hp; clear hp
    go_enter Try.func39, Try.ntmps39
    go_wp2_with fail
    refine (areSuppressed_b false _ _ x p _ HP.out H1.out H2.out).mono ?_
    rintro e w' ⟨rfl, rfl⟩
    go_wp2
    go_ret2
    exact ⟨rfl, Ext.refl _⟩
  have hx : gridB 8 1000 x = true := (pubB_shape hp).1
  cases hq : patB x q
  · have hB : needsB x p q = false := by simp [needsB, pubB, hq]
    have hV : needsV x p q = false := by simp [needsV, hB]
    rw [hV, hB]; clear hV hB
    have HP := Lib.hid hp; clear hp
    have HQ := Lib.hid hq; clear hq
    have HX := Lib.hid hx; clear hx
    go_enter Try.func39, Try.ntmps39
    go_wp2_with fail
    refine (areSuppressed_b true _ _ x p _ HP.out H1.out H2.out).mono ?_
    rintro e w ⟨rfl, rfl⟩
    go_wp2_with fail
    refine (isPattern_b false _ _ x q _ HQ.out HX.out H1.out H3.out).mono ?_
    rintro e w' ⟨rfl, rfl⟩
    go_wp2
    go_ret2
    exact ⟨rfl, Ext.refl _⟩
  have hq2 : pubB x q = true := by simp [pubB, hx, hq]
  have HL := Lib.hid (like_of hp hq2)
  cases hc : coversB p q
  · have hB : needsB x p q = false := by simp [needsB, hc]
    have hV : needsV x p q = false := by simp [needsV, hB]
    rw [hV, hB]; clear hV hB hq2
    have HP := Lib.hid hp; clear hp
    have HQ := Lib.hid hq; clear hq
    have HX := Lib.hid hx; clear hx
    have HC := Lib.hid hc; clear hc
    go_enter Try.func39, Try.ntmps39
    go_wp2_with fail
    refine (areSuppressed_b true _ _ x p _ HP.out H1.out H2.out).mono ?_
    rintro e w ⟨rfl, rfl⟩
    go_wp2_with fail
    refine (isPattern_b true _ _ x q _ HQ.out HX.out H1.out H3.out).mono ?_
    rintro e w ⟨rfl, rfl⟩
    go_wp2_with fail
    refine (covers_b false _ _ p q _ HC.out H2.out H3.out HL.out).mono ?_
    rintro e w1 ⟨rfl, u1⟩
    go_wp2
    go_ret2
    exact ⟨rfl, u1⟩
  have hB : needsB x p q = true := by simp [needsB, hp, hq2, hc]
  have hV : needsV x p q = aloneB p q := by simp [needsV, hB]
  rw [hV, hB]; clear hV hB
  have HT := Lib.hid (pat_tame hp)
  clear hq2
  have HP := Lib.hid hp; clear hp
  have HQ := Lib.hid hq; clear hq
  have HX := Lib.hid hx; clear hx
  have HC := Lib.hid hc; clear hc
  have q8 := HL.out.n8
  have p0 : 0 < p.length := by have := HL.out.len; have := HL.out.n1; omega
  have p8 : (rowAt p 0).length ≤ 8 := by have := HL.out.row 0 p0; omega
  have HR : Hid (∀ i, (rowAt q i).length ≤ 8) := Lib.hid (fun i => by
    by_cases hi : i < p.length
    · exact (HL.out.row i hi).2.2
    · rw [rowAt_out (by have := HL.out.len; omega)]; simp)
  go_enter Try.func39, Try.ntmps39
  go_wp2_with fail
  refine (areSuppressed_b true _ _ x p _ HP.out H1.out H2.out).mono ?_
  rintro e w ⟨rfl, rfl⟩
  go_wp2_with fail
  refine (isPattern_b true _ _ x q _ HQ.out HX.out H1.out H3.out).mono ?_
  rintro e w ⟨rfl, rfl⟩
  go_wp2_with fail
  refine (covers_b true _ _ p q _ HC.out H2.out H3.out HL.out).mono ?_
  rintro e w1 ⟨rfl, u1⟩
  go_wp2_with fail
  refine (rowSums_c _ p _ (H2.out.ext u1) HT.out).mono ?_
  rintro e w2 ⟨v2', rfl, o2, u2⟩
  have O2 := Lib.hid o2
  obtain ⟨a2, c2, rfl, n2, n2', qq⟩ := o2; clear qq
  go_wp2_with fail
  refine (colSums_c _ p (rowAt p 0).length _ (H2.out.ext (u1.trans u2)) HT.out p0 HL.out.eq).mono ?_
  rintro e w3 ⟨v3', rfl, o3, u3⟩
  have O3 := Lib.hid o3
  obtain ⟨a3, c3, rfl, n3, n3', qq⟩ := o3; clear qq
  have O2' := Lib.hid (O2.out.ext u3)
  go_wp2_with fail
  refine (positions_c _ q _ (H3.out.ext ((u1.trans u2).trans u3)) q8 HR.out).mono ?_
  rintro e w4 ⟨v4', rvs, rfl, og, u4⟩
  obtain ⟨ao, cap, rfl, q1, q2, q3⟩ := og
  have GA := Lib.hid q3.grid; clear q3
  have I2 := (O2'.out.ext u4).ints
  have I3 := (O3.out.ext u4).ints
  obtain ⟨_, _, eI2, _, _, J2⟩ := I2
  simp only [Value.slice.injEq, true_and] at eI2
  obtain ⟨rfl, rfl⟩ := eI2
  obtain ⟨_, _, eI3, _, _, J3⟩ := I3
  simp only [Value.slice.injEq, true_and] at eI3
  obtain ⟨rfl, rfl⟩ := eI3
  have HJ2 := Lib.hid J2; clear J2
  have HJ3 := Lib.hid J3; clear J3
  go_wp2
  go_loop [35] (fun i => ∃ n : Nat, n ≤ (posOf q).length ∧ i = .int .i64 n ∧ (∀ m, m < n → ∀ i j : Nat, rowAt (posOf q) m = [(i : Int), (j : Int)] → ¬ ((rowAt p i).sum = 1 ∨ (colOf p j).sum = 1))) (fun i => (posOf q).length - (intOf i).toNat)
  case atStart => exact ⟨0, Nat.zero_le _, rfl, fun m hm => by omega⟩
  case round =>
    obtain ⟨n, hn, rfl, hj⟩ := hrel
    have HJ := Lib.hid hj; clear hj
    by_cases hlt : n < (posOf q).length
    · obtain ⟨i, j, er, hi, hjj, h1⟩ := posOf_at hlt
      obtain ⟨b, o, ar, cr, rfl, hc, r1, r2, r3⟩ := GA.out.at_ hlt
      obtain ⟨b0, o0, e0, hc0⟩ := r3 0 (by rw [er]; simp)
      obtain ⟨b1, o1, e1', hc1⟩ := r3 1 (by rw [er]; simp)
      subst e0
      simp only [Option.some.injEq, Addr.mk.injEq, and_true] at e1'
      obtain ⟨rfl, rfl⟩ := e1'
      rw [er] at hc0 hc1 hc r1
      have z0 : ix [(i : Int), (j : Int)] 0 = i := by simp [ix, List.getD]
      have z1 : ix [(i : Int), (j : Int)] 1 = j := by simp [ix, List.getD]
      rw [z0] at hc0
      rw [z1] at hc1
      have hc00 := hc0
      rw [Nat.add_zero] at hc00
      have hi' : i < p.length := by have := HL.out.len; omega
      have hj' : j < (rowAt p 0).length := by have := HL.out.row i hi'; have := HL.out.eq i hi'; omega
      obtain ⟨b2, o2, rfl, hc2⟩ := HJ2.out i (by rw [rowS_length]; exact hi')
      obtain ⟨b3, o3, rfl, hc3⟩ := HJ3.out j (by rw [colS_length]; exact hj')
      have hi2 : i < (rowS p).length := by rw [rowS_length]; exact hi'
      have hj2 : j < (colS p (rowAt p 0).length).length := by rw [colS_length]; exact hj'
      rw [ix_rowS hi'] at hc2
      rw [ix_colS hj'] at hc3
      have HER := Lib.hid er; clear er r3 z0 z1
      have HQI := Lib.hid (And.intro hi (And.intro hjj h1))
      clear hi hjj h1
      obtain ⟨RS, hRS⟩ : ∃ S, (rowAt p i).sum = S := ⟨_, rfl⟩
      obtain ⟨CS, hCS⟩ : ∃ S, (colOf p j).sum = S := ⟨_, rfl⟩
      rw [hRS] at hc2
      rw [hCS] at hc3
      have HRS := Lib.hid hRS; clear hRS
      have HCS := Lib.hid hCS; clear hCS
      by_cases hz : RS = 1
      · have hq0 : (RS == 1) = true := by simp [hz]
        have HB := Lib.hid (aloneB_true (p := p) (q := q) HQI.out.1 HQI.out.2.1 HQI.out.2.2 (.inl (HRS.out.trans hz))); clear hz
        go_wp2
        go_ret2
        rw [HB.out]
        exact ⟨rfl, ((u1.trans u2).trans u3).trans u4⟩
      · have hq0 : (RS == 1) = false := by simp [hz]
        have HZ := Lib.hid hz; clear hz
        by_cases hz2 : CS = 1
        · have hq2 : (CS == 1) = true := by simp [hz2]
          have HB := Lib.hid (aloneB_true (p := p) (q := q) HQI.out.1 HQI.out.2.1 HQI.out.2.2 (.inr (HCS.out.trans hz2))); clear hz2
          go_wp2
          go_ret2
          rw [HB.out]
          exact ⟨rfl, ((u1.trans u2).trans u3).trans u4⟩
        · have hq2 : (CS == 1) = false := by simp [hz2]
          have HZ2 := Lib.hid hz2; clear hz2
          go_wp2
          go_round
          case rel => exact ⟨n + 1, by omega, by go_num, fun m hm i' j' e => by
            by_cases em : m = n
            · subst em
              rw [HER.out] at e
              simp only [List.cons.injEq, Int.natCast_inj, and_true] at e
              rw [← e.1, ← e.2, HRS.out, HCS.out]; rintro (h | h); exact HZ.out h; exact HZ2.out h
            · exact HJ.out m (by omega) i' j' e⟩
          case measure => simp [intOf]; omega
    · have hB := aloneB_false (p := p) (q := q) (fun i j hi hj h1 => by
        obtain ⟨m, hm, em⟩ := posOf_row hi hj h1
        exact HJ.out m (by omega) i j em)
      have HB := Lib.hid hB; clear hB
      go_wp2
      go_ret2
      rw [HB.out]
      exact ⟨rfl, ((u1.trans u2).trans u3).trans u4⟩
end Go.Proofs.Ytmffhipfodlomaa
