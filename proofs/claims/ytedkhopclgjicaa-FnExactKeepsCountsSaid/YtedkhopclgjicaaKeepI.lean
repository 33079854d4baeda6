/- KeepsCounts, the program's. -/
import Derived.Test.YtedkhopclgjicaaKeepM
import Derived.Deep.RegionHeld3
namespace Go.Proofs.Ytedkhopclgjicaa
open Go.RowKit Go.Maps Go.ChangeMaps Go.ChangeShapes

theorem grown_ext {w w' : World} (u : Ext w w') : w.grownBy w' none := ⟨u.os, u.tape, u.output, u.size, fun _ hk _ => u.block hk⟩
abbrev OM (w : World) (B n : Nat) (D : DataW Unit) : Prop := w.ownsMap Try.prog 54 (plainElem Try.prog 3) B n D
theorem om_ext {w w' : World} {B n : Nat} {D : DataW Unit} (h : OM w B n D) (u : Ext w w') : OM w' B n D := World.ownsMap.kept h (grown_ext u) (by simp)
theorem om_lt {w : World} {B n : Nat} {D : DataW Unit} (h : OM w B n D) : B < w.heap.size := World.ownsMap.lt h
theorem om_map {w : World} {B n : Nat} {D : DataW Unit} (h : OM w B n D) : IsMap D := World.ownsMap.isMap h
def dA (s : List Vr) (a : List Pe) (vars : List Int) (n : Nat) (x y : Int) : Int := (kcnt s a vars x y n : Int)
def dB (s : List Vr) (a b : List Pe) (vars : List Int) (n : Nat) (x y : Int) : Int := (kcnt s a vars x y a.length : Int) - (kcnt s b vars x y n : Int)
theorem dA_step {s : List Vr} {a : List Pe} {vars : List Int} {n : Nat} : dA s a vars (n + 1) (peAt a n).area (kAt s a vars n) = dA s a vars n (peAt a n).area (kAt s a vars n) + 1 := by
  unfold dA; rw [kcnt_yes ⟨rfl, rfl⟩]; omega
theorem dA_off {s : List Vr} {a : List Pe} {vars : List Int} {n : Nat} (x y : Int) (h : ¬ (x = (peAt a n).area ∧ y = kAt s a vars n)) : dA s a vars (n + 1) x y = dA s a vars n x y := by
  unfold dA; rw [kcnt_no (fun e => h ⟨e.1.symm, e.2.symm⟩)]
theorem dB_step {s : List Vr} {a b : List Pe} {vars : List Int} {n : Nat} : dB s a b vars (n + 1) (peAt b n).area (kAt s b vars n) = dB s a b vars n (peAt b n).area (kAt s b vars n) - 1 := by
  unfold dB; rw [kcnt_yes ⟨rfl, rfl⟩]; omega
theorem dB_off {s : List Vr} {a b : List Pe} {vars : List Int} {n : Nat} (x y : Int) (h : ¬ (x = (peAt b n).area ∧ y = kAt s b vars n)) : dB s a b vars (n + 1) x y = dB s a b vars n x y := by
  unfold dB; rw [kcnt_no (fun e => h ⟨e.1.symm, e.2.symm⟩)]
theorem dA_range {s : List Vr} {a : List Pe} {vars : List Int} {n : Nat} (x y : Int) : 0 ≤ dA s a vars n x y ∧ dA s a vars n x y ≤ n := by
  have := kcnt_le s a vars x y n; unfold dA; omega
theorem dB_range {s : List Vr} {a b : List Pe} {vars : List Int} {n : Nat} (x y : Int) : -(n : Int) ≤ dB s a b vars n x y ∧ dB s a b vars n x y ≤ a.length := by
  have := kcnt_le s b vars x y n; have := kcnt_le s a vars x y a.length; unfold dB; omega
theorem bal_of_zero {s : List Vr} {a b : List Pe} {vars : List Int} {D : DataW Unit} (hD : DOk D (dB s a b vars b.length)) (hz : ∀ kl, Maps.has D kl = true → D.atKey kl (.lit (.int .i64 0)) = .lit (.int .i64 0))
    (hw : ∀ i, i < (a ++ b).length → (Lit.int .i64 (peAt (a ++ b) i).area).wf = true ∧ (Lit.int .i64 (kAt s (a ++ b) vars i)).wf = true) : Bal s a b vars := by
  refine bal_of (fun i hi => ?_)
  obtain ⟨w1, w2⟩ := hw i hi
  obtain ⟨kl, hk⟩ := key_some w1 w2
  have h1 := hD.at_ _ _ kl hk
  have h2 : D.atKey kl (.lit (.int .i64 0)) = .lit (.int .i64 0) := by
    cases h : Maps.has D kl
    · exact atKey_of_not_has h _
    · exact hz kl h
  rw [h2] at h1
  simp only [DataW.lit.injEq, Lit.int.injEq, true_and, dB] at h1
  unfold BalAt; omega
theorem not_bal {s : List Vr} {a b : List Pe} {vars : List Int} {D : DataW Unit} (hD : DOk D (dB s a b vars b.length)) {kl : Lit} (hh : Maps.has D kl = true) {c : Int} (hc : D.atKey kl (.lit (.int .i64 0)) = .lit (.int .i64 c)) (h0 : c ≠ 0) : ¬ Bal s a b vars := by
  obtain ⟨x, y, hk⟩ := hD.keys kl hh
  have h1 := hD.at_ _ _ kl hk
  rw [hc] at h1
  simp only [DataW.lit.injEq, Lit.int.injEq, true_and, dB] at h1
  intro hb
  have := hb x y
  omega

set_option maxRecDepth 100000 in
set_option maxHeartbeats 6400000 in
theorem implKeepsCounts_c (v1 : Value) (s : List Vr) (v2 : Value) (a : List Pe) (v3 : Value) (b : List Pe) (v4 : Value) (vars : List Int) (w : World) (h1 : Vrs w v1 s) (h2 : Pes w v2 a) (h3 : Pes w v3 b) (h4 : Ints w v4 vars) (hw : WfV s) :
    Calls Try.prog 10 #[v1, v2, v3, v4] w fun e w' => e = .returned (.tuple #[.bool (kcV s a b vars), .bool (kcB s a b vars)]) ∧ Ext w w' := by
  have H1 := Lib.hid h1; clear h1
  have H2 := Lib.hid h2
  have H3 := Lib.hid h3
  have H4 := Lib.hid h4; clear h4
  have HW := Lib.hid hw; clear hw
  cases hi : inB s a vars
  · have HB : Hid (kcV s a b vars = false ∧ kcB s a b vars = false) := Lib.hid (by simp [kcV, kcB, hi])
    rw [HB.out.1, HB.out.2]
    clear h2 h3
    have HI := Lib.hid hi; clear hi
    go_enter Try.func10, Try.ntmps10
    go_wp2_with fail
    refine (areKeyed_b false _ _ _ s a vars _ HI.out H1.out HW.out H2.out H4.out).mono ?_
    rintro e w1 ⟨rfl, u1⟩
    go_wp2
    go_ret2
    exact ⟨rfl, u1⟩
  cases hb : datB s b
  · have HB : Hid (kcV s a b vars = false ∧ kcB s a b vars = false) := Lib.hid (by simp [kcV, kcB, hb])
    rw [HB.out.1, HB.out.2]
    clear h2 h3
    have HI := Lib.hid hi
    have HS := Lib.hid (inB_true.1 hi).1.1; clear hi
    have HD := Lib.hid hb; clear hb
    go_enter Try.func10, Try.ntmps10
    go_wp2_with fail
    refine (areKeyed_b true _ _ _ s a vars _ HI.out H1.out HW.out H2.out H4.out).mono ?_
    rintro e w1 ⟨rfl, u1⟩
    go_wp2_with fail
    refine (isData_b false _ _ s b _ HD.out (H1.out.ext u1) (H3.out.ext u1)).mono ?_
    rintro e w2 ⟨rfl, u2⟩
    go_wp2
    go_ret2
    exact ⟨rfl, u1.trans u2⟩
  have HB : Hid (kcB s a b vars = true) := Lib.hid (by simp [kcB, hi, hb])
  have hib := in_other hi hb
  have ha40 := (inB_true.1 hi).2.1
  have hb40 := (inB_true.1 hib).2.1
  have HKA : Hid (∀ k, k < a.length → KeyOk s (peAt a k).vals vars) := Lib.hid (fun k hk => keyOk_of hi hk)
  have HKB : Hid (∀ k, k < b.length → KeyOk s (peAt b k).vals vars) := Lib.hid (fun k hk => keyOk_of hib hk)
  have HWA : Hid (∀ k, k < a.length → (0 ≤ (peAt a k).area ∧ (peAt a k).area ≤ 29) ∧ 0 ≤ kAt s a vars k ∧ kAt s a vars k < 262144) := Lib.hid (fun k hk => ⟨((inB_true.1 hi).2.2 k hk).1, (keyOk_of hi hk).lt vars.length (Nat.le_refl _)⟩)
  have HWB : Hid (∀ k, k < b.length → (0 ≤ (peAt b k).area ∧ (peAt b k).area ≤ 29) ∧ 0 ≤ kAt s b vars k ∧ kAt s b vars k < 262144) := Lib.hid (fun k hk => ⟨((inB_true.1 hib).2.2 k hk).1, (keyOk_of hib hk).lt vars.length (Nat.le_refl _)⟩)
  have HWX : Hid (∀ i, i < (a ++ b).length → (Lit.int .i64 (peAt (a ++ b) i).area).wf = true ∧ (Lit.int .i64 (kAt s (a ++ b) vars i)).wf = true) := Lib.hid (fun i hi => by
    unfold kAt
    by_cases hka : i < a.length
    · rw [peAt_left hka]
      have h := HWA.out i hka; unfold kAt at h
      exact ⟨WalkArith.wf_i64 (by omega), WalkArith.wf_i64 (by omega)⟩
    · obtain ⟨j, rfl⟩ : ∃ j, i = a.length + j := ⟨i - a.length, by omega⟩
      rw [peAt_right]
      have h := HWB.out j (by simp at hi; omega); unfold kAt at h
      exact ⟨WalkArith.wf_i64 (by omega), WalkArith.wf_i64 (by omega)⟩)
  have HYes : Hid (∀ D : DataW Unit, DOk D (dB s a b vars b.length) → (∀ kl, Maps.has D kl = true → D.atKey kl (.lit (.int .i64 0)) = .lit (.int .i64 0)) → kcV s a b vars = true) := Lib.hid (fun D hD hz => by simp [kcV, hi, hb, bal_of_zero hD hz HWX.out])
  have HNo : Hid (∀ D : DataW Unit, DOk D (dB s a b vars b.length) → ∀ (kl : Lit) (c : Int), Maps.has D kl = true → D.atKey kl (.lit (.int .i64 0)) = .lit (.int .i64 c) → c ≠ 0 → kcV s a b vars = false) := Lib.hid (fun D hD kl c h1 h2 h3 => by
    have := not_bal hD h1 h2 h3
    simp [kcV, this])
  obtain ⟨V, hV⟩ : ∃ V, kcV s a b vars = V := ⟨_, rfl⟩
  rw [HB.out]
  rw [hV] at HYes HNo ⊢
  clear hV hib
  have HI := Lib.hid hi; clear hi
  have HD := Lib.hid hb; clear hb
  obtain ⟨ax, cx, rfl, ea1, ea2, ga⟩ := h2
  have GA := Lib.hid ga; clear ga
  obtain ⟨ay, cy, rfl, eb1, eb2, gb⟩ := h3
  have GB' := Lib.hid gb; clear gb
  have hmm := @run_makeMap Try.prog
  go_enter Try.func10, Try.ntmps10
  go_wp2_with fail
  refine (areKeyed_b true _ _ _ s a vars _ HI.out H1.out HW.out H2.out H4.out).mono ?_
  rintro e w1 ⟨rfl, u1⟩
  go_wp2_with fail
  refine (isData_b true _ _ s b _ HD.out (H1.out.ext u1) (H3.out.ext u1)).mono ?_
  rintro e w2 ⟨rfl, u2⟩
  have ux := u1.trans u2
  clear u1 u2
  have hB0 : w.heap.size ≤ w2.heap.size := ux.size
  have HM0 := Lib.hid (World.ownsMap_made (H := Unit) w2 Try.prog 54 (plainElem Try.prog 3))
  go_wp2
  go_loopw [31] (fun i wr => ∃ (n : Nat) (D : DataW Unit), n ≤ a.length ∧ i = .int .i64 n ∧ OM wr w2.heap.size (n) D ∧ DOk D (dA s a vars n) ∧ Ext w wr) (fun i _ => a.length - (intOf i).toNat)
  case atStart => exact ⟨0, _, Nat.zero_le _, rfl, HM0.out, DOk.zero, (ux.alloc _)⟩
  case round =>
    obtain ⟨n, D, hn, rfl, hom, hdo, hx⟩ := hrel
    obtain ⟨wo, rfl⟩ : ∃ wo : World, wo = wr := ⟨_, rfl⟩
    have HM := Lib.hid hom; clear hom
    have HDO := Lib.hid hdo; clear hdo
    by_cases hlt : n < a.length
    · obtain ⟨b', o, av, cr, rfl, hc0, hc1, hc2, r1, r2, r3⟩ := (GA.out.ext hx).at_ hlt
      have HI9 : Hid (Ints wo (.slice av (peAt a n).vals.length cr) (peAt a n).vals) := Lib.hid ⟨av, cr, rfl, r1, r2, r3⟩
      clear r3
      have hrg := dA_range (s := s) (a := a) (vars := vars) (n := n) (peAt a n).area (kAt s a vars n)
      have hww := HWA.out n hlt
      have HST : Hid (dA s a vars (n + 1) (peAt a n).area (kAt s a vars n) = dA s a vars n (peAt a n).area (kAt s a vars n) + 1) := Lib.hid dA_step
      have HOF : Hid (∀ x y, ¬ (x = (peAt a n).area ∧ y = kAt s a vars n) → dA s a vars (n + 1) x y = dA s a vars n x y) := Lib.hid (fun x y h => dA_off x y h)
      obtain ⟨A, hA⟩ : ∃ A, (peAt a n).area = A := ⟨_, rfl⟩
      obtain ⟨K, hK⟩ : ∃ K, kAt s a vars n = K := ⟨_, rfl⟩
      have HK : Hid (keyL s (peAt a n).vals vars = K) := Lib.hid hK
      have HA := Lib.hid hA
      rw [hA, hK] at hrg hww HST HOF
      rw [hA] at hc0
      clear hA hK
      obtain ⟨c, hc⟩ : ∃ c, dA s a vars n A K = c := ⟨_, rfl⟩
      rw [hc] at hrg HST
      obtain ⟨kl, hkl⟩ := key_some (a := A) (b := K) (WalkArith.wf_i64 (by omega)) (WalkArith.wf_i64 (by omega))
      have HKL := Lib.hid hkl; clear hkl
      have HAT : Hid (D.atKey kl (.lit (.int .i64 0)) = .lit (.int .i64 c)) := Lib.hid (by rw [HDO.out.at_ A K kl HKL.out, hc])
      clear hc
      have HWF : Hid ((Lit.int .i64 (c + 1)).wf = true) := Lib.hid (WalkArith.wf_i64 (by omega))
      have hwr : IntKind.i64.wrap (c + 1) = c + 1 := IntWalk.i64_in _ (by omega)
      obtain ⟨HO, hHO⟩ : ∃ h, (peAt a n).house = h := ⟨_, rfl⟩
      obtain ⟨nv, hnv⟩ : ∃ m, (peAt a n).vals.length = m := ⟨_, rfl⟩
      have HPE : Hid (PeR wo (.agg #[.int .i64 A, .int .i64 HO, .slice av nv cr]) (peAt a n)) := Lib.hid ⟨_, by rw [HA.out, hHO], by rw [← hnv]; exact HI9.out⟩
      rw [hHO] at hc1
      rw [hnv] at hc2 r1
      clear hHO hnv
      have bx := Box.new wo 46 #[.int .i64 A, .int .i64 HO, .slice av nv cr] rfl
      have ub := (Ext.refl wo).alloc (.cells #[.int .i64 A, .int .i64 HO, .slice av nv cr] 46)
      obtain ⟨wb, hwb⟩ : ∃ wb, wo.alloc (.cells #[.int .i64 A, .int .i64 HO, .slice av nv cr] 46) = wb := ⟨_, rfl⟩
      have hbs : wb.heap.size = wo.heap.size + 1 := by rw [← hwb]; simp
      have HWB' := Lib.hid hwb
      rw [hwb] at bx ub
      clear hwb
      have hlb := om_lt HM.out
      have HE0 := Lib.hid (Ext.drew (hx.trans ub))
      have HU0 := Lib.hid (Ext.drew ub)
      have HM1 := Lib.hid (om_ext HM.out (Ext.drew ub))
      have k0 := bx.drew.cell 0 (by simp)
      have k1 := bx.drew.cell 1 (by simp)
      have k2 := bx.drew.cell 2 (by simp)
      have HS0 : Hid (wb.drew.cell? ⟨wo.heap.size, 0, none⟩ = some (.int .i64 A) ∧ wb.drew.cell? ⟨wo.heap.size, 1, none⟩ = some (.int .i64 HO) ∧ wb.drew.cell? ⟨wo.heap.size, 2, none⟩ = some (.slice av nv cr)) := Lib.hid ⟨k0, k1, k2⟩
      have HKP : Hid (∀ z, wb.drew.grownBy z (some w2.heap.size) → (z.cell? ⟨wo.heap.size, 0, none⟩ = some (.int .i64 A) ∧ z.cell? ⟨wo.heap.size, 1, none⟩ = some (.int .i64 HO) ∧ z.cell? ⟨wo.heap.size, 2, none⟩ = some (.slice av nv cr))) := Lib.hid (fun z hz => by
        have hne : ¬ (wo.heap.size = w2.heap.size) := by omega
        have hu := Upd.of_grown hz
        exact ⟨hu.cell k0 (by simpa using fun e => hne e.symm), hu.cell k1 (by simpa using fun e => hne e.symm), hu.cell k2 (by simpa using fun e => hne e.symm)⟩)
      clear bx k0 k1 k2 ub
      go_wp2_with fail
      rw [HWB'.out]
      go_region_held3 (fun x => x.cell? ⟨wo.heap.size, 0, none⟩ = some (.int .i64 A) ∧ x.cell? ⟨wo.heap.size, 1, none⟩ = some (.int .i64 HO) ∧ x.cell? ⟨wo.heap.size, 2, none⟩ = some (.slice av nv cr))
        (first | exact HS0.out | exact HS1.out | exact HS2.out | exact HS3.out)
        ((go_at_call 24; (with_reducible refine (keyOf_c _ _ _ s (peAt a n) vars _ (H1.out.ext HE0.out) (HPE.out.ext HU0.out) (H4.out.ext HE0.out) (HKA.out n hlt)).mono ?_); rw [HK.out]; rintro e w3 ⟨rfl, u3⟩; have HS1 := Lib.hid (HKP.out w3 ((grown_ext u3).but _)); obtain ⟨v0, st, w4, w5, q1, q2, q2', q3, q4, q5, q6⟩ := own_entry (om_ext HM1.out u3) lawA Try.underlying52 Try.underlying3 zeroI (by unfold maxLen; omega) HKL.out HAT.out HWF.out; have HS2 := Lib.hid (HKP.out w4 (((grown_ext u3).but _).trans q6)); have HS3 := Lib.hid (HKP.out w5 (((grown_ext u3).but _).trans q5)); have HQ := Lib.hid (And.intro q4 (And.intro q5 u3)); clear q4 q5 q6 u3))
      all_goals
        have hx5 : Ext w w5 := (HE0.out.trans HQ.out.2.2).of_upd (Upd.of_grown HQ.out.2.1) (fun b hb => by simp at hb; omega)
        have HN : Hid (OM w5 w2.heap.size (n + 1) (D.put kl (.lit (.int .i64 (c + 1)))) ∧ DOk (D.put kl (.lit (.int .i64 (c + 1)))) (dA s a vars (n + 1))) := Lib.hid ⟨HQ.out.1, by
          have := HDO.out.put (om_map HM.out) HKL.out HOF.out
          rwa [HST.out] at this⟩
        clear HQ
        go_wp2
        go_roundw
        case rel => exact ⟨n + 1, _, by omega, by go_num, HN.out.1, HN.out.2, hx5⟩
        case measure => simp [intOf]; omega
    · have hnl : n = a.length := by omega
      subst hnl
      have hd0 : dA s a vars a.length = dB s a b vars 0 := by funext x y; simp [dA, dB, kcnt_zero]
      rw [hd0] at HDO
      clear hd0
      go_wp2
      go_loopw [50] (fun i wr => ∃ (n : Nat) (D : DataW Unit), n ≤ b.length ∧ i = .int .i64 n ∧ OM wr w2.heap.size (a.length + n) D ∧ DOk D (dB s a b vars n) ∧ Ext w wr) (fun i _ => b.length - (intOf i).toNat)
      case atStart => exact ⟨0, D, Nat.zero_le _, rfl, HM.out, HDO.out, hx⟩
      case round =>
        obtain ⟨n, D, hn, rfl, hom, hdo, hx⟩ := hrel
        obtain ⟨wo, rfl⟩ : ∃ wo : World, wo = wr := ⟨_, rfl⟩
        have HM := Lib.hid hom; clear hom
        have HDO := Lib.hid hdo; clear hdo
        by_cases hlt : n < b.length
        · obtain ⟨b', o, av, cr, rfl, hc0, hc1, hc2, r1, r2, r3⟩ := (GB'.out.ext hx).at_ hlt
          have HI9 : Hid (Ints wo (.slice av (peAt b n).vals.length cr) (peAt b n).vals) := Lib.hid ⟨av, cr, rfl, r1, r2, r3⟩
          clear r3
          have hrg := dB_range (s := s) (a := a) (b := b) (vars := vars) (n := n) (peAt b n).area (kAt s b vars n)
          have hww := HWB.out n hlt
          have HST : Hid (dB s a b vars (n + 1) (peAt b n).area (kAt s b vars n) = dB s a b vars n (peAt b n).area (kAt s b vars n) - 1) := Lib.hid dB_step
          have HOF : Hid (∀ x y, ¬ (x = (peAt b n).area ∧ y = kAt s b vars n) → dB s a b vars (n + 1) x y = dB s a b vars n x y) := Lib.hid (fun x y h => dB_off x y h)
          obtain ⟨A, hA⟩ : ∃ A, (peAt b n).area = A := ⟨_, rfl⟩
          obtain ⟨K, hK⟩ : ∃ K, kAt s b vars n = K := ⟨_, rfl⟩
          have HK : Hid (keyL s (peAt b n).vals vars = K) := Lib.hid hK
          have HA := Lib.hid hA
          rw [hA, hK] at hrg hww HST HOF
          rw [hA] at hc0
          clear hA hK
          obtain ⟨c, hc⟩ : ∃ c, dB s a b vars n A K = c := ⟨_, rfl⟩
          rw [hc] at hrg HST
          obtain ⟨kl, hkl⟩ := key_some (a := A) (b := K) (WalkArith.wf_i64 (by omega)) (WalkArith.wf_i64 (by omega))
          have HKL := Lib.hid hkl; clear hkl
          have HAT : Hid (D.atKey kl (.lit (.int .i64 0)) = .lit (.int .i64 c)) := Lib.hid (by rw [HDO.out.at_ A K kl HKL.out, hc])
          clear hc
          have HWF : Hid ((Lit.int .i64 (c - 1)).wf = true) := Lib.hid (WalkArith.wf_i64 (by omega))
          have hwr : IntKind.i64.wrap (c - 1) = c - 1 := IntWalk.i64_in _ (by omega)
          obtain ⟨HO, hHO⟩ : ∃ h, (peAt b n).house = h := ⟨_, rfl⟩
          obtain ⟨nv, hnv⟩ : ∃ m, (peAt b n).vals.length = m := ⟨_, rfl⟩
          have HPE : Hid (PeR wo (.agg #[.int .i64 A, .int .i64 HO, .slice av nv cr]) (peAt b n)) := Lib.hid ⟨_, by rw [HA.out, hHO], by rw [← hnv]; exact HI9.out⟩
          rw [hHO] at hc1
          rw [hnv] at hc2 r1
          clear hHO hnv
          have bx := Box.new wo 46 #[.int .i64 A, .int .i64 HO, .slice av nv cr] rfl
          have ub := (Ext.refl wo).alloc (.cells #[.int .i64 A, .int .i64 HO, .slice av nv cr] 46)
          obtain ⟨wb, hwb⟩ : ∃ wb, wo.alloc (.cells #[.int .i64 A, .int .i64 HO, .slice av nv cr] 46) = wb := ⟨_, rfl⟩
          have hbs : wb.heap.size = wo.heap.size + 1 := by rw [← hwb]; simp
          have HWB' := Lib.hid hwb
          rw [hwb] at bx ub
          clear hwb
          have hlb := om_lt HM.out
          have HE0 := Lib.hid (Ext.drew (hx.trans ub))
          have HU0 := Lib.hid (Ext.drew ub)
          have HM1 := Lib.hid (om_ext HM.out (Ext.drew ub))
          have k0 := bx.drew.cell 0 (by simp)
          have k1 := bx.drew.cell 1 (by simp)
          have k2 := bx.drew.cell 2 (by simp)
          have HS0 : Hid (wb.drew.cell? ⟨wo.heap.size, 0, none⟩ = some (.int .i64 A) ∧ wb.drew.cell? ⟨wo.heap.size, 1, none⟩ = some (.int .i64 HO) ∧ wb.drew.cell? ⟨wo.heap.size, 2, none⟩ = some (.slice av nv cr)) := Lib.hid ⟨k0, k1, k2⟩
          have HKP : Hid (∀ z, wb.drew.grownBy z (some w2.heap.size) → (z.cell? ⟨wo.heap.size, 0, none⟩ = some (.int .i64 A) ∧ z.cell? ⟨wo.heap.size, 1, none⟩ = some (.int .i64 HO) ∧ z.cell? ⟨wo.heap.size, 2, none⟩ = some (.slice av nv cr))) := Lib.hid (fun z hz => by
            have hne : ¬ (wo.heap.size = w2.heap.size) := by omega
            have hu := Upd.of_grown hz
            exact ⟨hu.cell k0 (by simpa using fun e => hne e.symm), hu.cell k1 (by simpa using fun e => hne e.symm), hu.cell k2 (by simpa using fun e => hne e.symm)⟩)
          clear bx k0 k1 k2 ub
          go_wp2_with fail
          rw [HWB'.out]
          go_region_held3 (fun x => x.cell? ⟨wo.heap.size, 0, none⟩ = some (.int .i64 A) ∧ x.cell? ⟨wo.heap.size, 1, none⟩ = some (.int .i64 HO) ∧ x.cell? ⟨wo.heap.size, 2, none⟩ = some (.slice av nv cr))
            (first | exact HS0.out | exact HS1.out | exact HS2.out | exact HS3.out)
            ((go_at_call 24; (with_reducible refine (keyOf_c _ _ _ s (peAt b n) vars _ (H1.out.ext HE0.out) (HPE.out.ext HU0.out) (H4.out.ext HE0.out) (HKB.out n hlt)).mono ?_); rw [HK.out]; rintro e w3 ⟨rfl, u3⟩; have HS1 := Lib.hid (HKP.out w3 ((grown_ext u3).but _)); obtain ⟨v0, st, w4, w5, q1, q2, q2', q3, q4, q5, q6⟩ := own_entry (om_ext HM1.out u3) lawA Try.underlying52 Try.underlying3 zeroI (by unfold maxLen; omega) HKL.out HAT.out HWF.out; have HS2 := Lib.hid (HKP.out w4 (((grown_ext u3).but _).trans q6)); have HS3 := Lib.hid (HKP.out w5 (((grown_ext u3).but _).trans q5)); have HQ := Lib.hid (And.intro q4 (And.intro q5 u3)); clear q4 q5 q6 u3))
          all_goals
            have hx5 : Ext w w5 := (HE0.out.trans HQ.out.2.2).of_upd (Upd.of_grown HQ.out.2.1) (fun b hb => by simp at hb; omega)
            have HN : Hid (OM w5 w2.heap.size (a.length + n + 1) (D.put kl (.lit (.int .i64 (c - 1)))) ∧ DOk (D.put kl (.lit (.int .i64 (c - 1)))) (dB s a b vars (n + 1))) := Lib.hid ⟨HQ.out.1, by
              have := HDO.out.put (om_map HM.out) HKL.out HOF.out
              rwa [HST.out] at this⟩
            clear HQ
            go_wp2
            go_roundw
            case rel => exact ⟨n + 1, _, by omega, by go_num, HN.out.1, HN.out.2, hx5⟩
            case measure => simp [intOf]; omega
        · have hnl : n = b.length := by omega
          subst hnl
          have HXX := Lib.hid hx
          go_wp2_with (first
            | (at_range; refine wpList_range_own _ rfl _ 52 rfl 54 3 lawK Try.underlying52 _ w2.heap.size (a.length + b.length) _ rfl HM.out ?_; intro w0 hrg0 hg0 hs0)
            | go_in)
          go_frame
          have hx0 : Ext w w0 := hx.of_upd (Upd.of_grown hg0) (fun b hb => by simp at hb)
          have HRG := Lib.hid hrg0; clear hrg0 hg0
          clear HXX hx
          go_loopw [16] (fun _ wr => ∃ (left : Lit → Bool) (cnt : Nat), wr.ranges Try.prog 54 (plainElem Try.prog 3) w2.heap.size wo.heap.size (a.length + b.length) D left cnt ∧ (∀ kl, left kl = true → Maps.has D kl = true) ∧ (∀ kl, Maps.has D kl = true → left kl = false → D.atKey kl (.lit (.int .i64 0)) = .lit (.int .i64 0)) ∧ Ext w wr)
            (fun _ wr => wr.rangeLeft w2.heap.size wo.heap.size)
          case atStart => exact ⟨_, _, HRG.out, fun kl h => h, fun kl h h2 => (by rw [h] at h2; cases h2), hx0⟩
          case round =>
            obtain ⟨left, cnt, hrg, hlf, hz, hxr⟩ := hrel
            have HLF := Lib.hid hlf; clear hlf
            have HZ := Lib.hid hz; clear hz
            have hwo := om_lt HM.out
            go_wp2_with (first
              | (at_next; refine wpList_next_ranges _ rfl _ rfl 54 lawK (plainElem Try.prog 3) (fun x : Value => x) (Value.int .i64) (fun key kl _ => ⟨key, rfl⟩) (fun v y hv => by obtain ⟨c, rfl, _⟩ := plainElem_int_inv Try.underlying3 hv; exact ⟨c, rfl⟩) w2.heap.size wo.heap.size (a.length + b.length) _ _ _ rfl hrg ?_ ?_)
              | go_in)
            · intro _ hl0
              have HV := Lib.hid (HYes.out D HDO.out (fun kl h => HZ.out kl h (hl0 kl)))
              go_wp2
              go_ret2
              exact ⟨ret_bools HV.out.symm rfl, hxr⟩
            · intro x c kl yd yp wy cnt1 hkey hlk hv hat hrg1 hlt1 hg1 hs1 hen
              have hxy : Ext w wy := hxr.of_upd (Upd.of_grown hg1) (fun b hb => by simp at hb; omega)
              obtain ⟨c', ec, hy, hwc⟩ := plainElem_int_inv Try.underlying3 hv
              simp only [Value.int.injEq, true_and] at ec
              subst ec
              simp only [Prod.mk.injEq] at hy
              have HAT : Hid (D.atKey kl (.lit (.int .i64 0)) = .lit (.int .i64 c)) := Lib.hid (by rw [hat]; exact hy.1)
              have HLK := Lib.hid (HLF.out kl hlk)
              clear hat hv hy hkey
              by_cases h0 : c = 0
              · have heq : (c != 0) = false := by simp [h0]
                have HZ1 : Hid (∀ kl', Maps.has D kl' = true → (left kl' && !kl'.sameKey kl) = false → D.atKey kl' (.lit (.int .i64 0)) = .lit (.int .i64 0)) := Lib.hid (fun kl' h1 h2 => by
                  cases hl : left kl'
                  · exact HZ.out kl' h1 hl
                  · rw [hl] at h2
                    simp only [Bool.true_and, Bool.not_eq_false'] at h2
                    rw [WideAt.sameKey_eq h2, HAT.out, h0])
                have HL1 : Hid (∀ kl', (left kl' && !kl'.sameKey kl) = true → Maps.has D kl' = true) := Lib.hid (fun kl' h => HLF.out kl' (by simp at h; exact h.1))
                clear h0 hwc
                go_wp2
                go_roundw
                case rel => exact ⟨_, cnt1, hrg1, HL1.out, HZ1.out, hxy⟩
                case measure => rw [hrg1.left_eq, hrg.left_eq]; exact hlt1
              · have hne : (c != 0) = true := by simp [h0]
                have HV := Lib.hid (HNo.out D HDO.out kl c HLK.out HAT.out h0)
                clear h0 hwc
                go_wp2
                go_ret2
                exact ⟨ret_bools HV.out.symm rfl, hxy⟩
end Go.Proofs.Ytedkhopclgjicaa
