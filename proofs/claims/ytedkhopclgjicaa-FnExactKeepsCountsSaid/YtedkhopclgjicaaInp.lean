/- The checks of schema, data and key variables; KeyOf, the spec's and the program's. -/
import Derived.Test.YtedkhopclgjicaaKey
namespace Go.Proofs.Ytedkhopclgjicaa
open Go.RowKit

noncomputable def kvB (s : List Vr) (vars : List Int) : Bool := schB s && risingB (s.length : Int) vars
noncomputable def inB (s : List Vr) (l : List Pe) (vars : List Int) : Bool := kvB s vars && datB s l
noncomputable def sdB (s : List Vr) (l : List Pe) : Bool := schB s && datB s l
theorem kvB_true {s : List Vr} {vars : List Int} : kvB s vars = true ↔ SchP s ∧ Rising (s.length : Int) vars := by
  simp [kvB, schB_true, risingB_true]
theorem inB_true {s : List Vr} {l : List Pe} {vars : List Int} : inB s l vars = true ↔ (SchP s ∧ Rising (s.length : Int) vars) ∧ DatP s l := by
  simp [inB, kvB_true, datB_true]
theorem sdB_true {s : List Vr} {l : List Pe} : sdB s l = true ↔ SchP s ∧ DatP s l := by simp [sdB, schB_true, datB_true]
theorem keyOk_of {s : List Vr} {l : List Pe} {vars : List Int} (h : inB s l vars = true) {k : Nat} (hk : k < l.length) : KeyOk s (peAt l k).vals vars := by
  obtain ⟨⟨h1, h2⟩, h3⟩ := inB_true.1 h
  exact ⟨h1, (h3.2 k hk).2.2, h2⟩

set_option maxHeartbeats 400000 in
theorem swVars_b (b : Bool) (v1 v2 : Value) (s : List Vr) (vars : List Int) (w : World) (hb : kvB s vars = b) (h1 : Vrs w v1 s) (hw : WfV s) (h2 : Ints w v2 vars) :
    Calls Try.prog 28 #[v1, v2] w fun e w' => e = .returned (.bool b) ∧ Ext w w' := by
  subst hb
  have H1 := Lib.hid h1
  obtain ⟨a1, c1, rfl, e1, e2, g1⟩ := h1
  clear g1
  have H2 := Lib.hid h2; clear h2
  have HW := Lib.hid hw; clear hw
  cases hs : schB s
  · have HS := Lib.hid hs
    have HB : Hid (kvB s vars = false) := Lib.hid (by simp [kvB, hs])
    clear hs
    go_enter Try.func28, Try.ntmps28
    go_wp2_with fail
    refine (sGood_b false _ s _ HS.out H1.out HW.out).mono ?_
    rintro e w1 ⟨rfl, u1⟩
    go_wp2
    go_ret
    exact ⟨ret_bool HB.out.symm, u1⟩
  · have HS := Lib.hid hs
    have hlen := (schB_true.1 hs).1
    have HB : Hid (kvB s vars = risingB (s.length : Int) vars) := Lib.hid (by simp [kvB, hs])
    clear hs
    go_enter Try.func28, Try.ntmps28
    go_wp2_with fail
    refine (sGood_b true _ s _ HS.out H1.out HW.out).mono ?_
    rintro e w1 ⟨rfl, u1⟩
    go_wp2_with fail
    refine (l1Rising_b (risingB (s.length : Int) vars) _ vars (s.length : Int) _ _ rfl rfl (H2.out.ext u1)).mono ?_
    rintro e w2 ⟨rfl, rfl⟩
    go_wp2
    go_ret
    exact ⟨ret_bool HB.out.symm, u1⟩
def prevI (xs : List Int) (k : Nat) : Int := if k = 0 then -1 else ix xs (k - 1)
theorem prevI_succ (xs : List Int) (k : Nat) : prevI xs (k + 1) = ix xs k := by simp [prevI]
set_option maxHeartbeats 400000 in
theorem areVars_b (b : Bool) (v1 v2 : Value) (s : List Vr) (vars : List Int) (w : World) (hb : risingB (s.length : Int) vars = b) (h1 : Vrs w v1 s) (h2 : Ints w v2 vars) :
    Calls Try.prog 34 #[v1, v2] w fun e w' => e = .returned (.bool b) ∧ w' = w := by
  subst hb
  obtain ⟨a1, c1, rfl, e1, e2, g1⟩ := h1
  clear g1
  obtain ⟨a2, c2, rfl, e3, e4, g2⟩ := h2
  have G2 := Lib.hid g2; clear g2
  obtain ⟨n, hn⟩ : ∃ n, s.length = n := ⟨_, rfl⟩
  rw [hn] at e1 ⊢
  clear hn
  go_enter Try.func34, Try.ntmps34
  go_wp2
  go_loop [5, 10] (fun p i => ∃ (k : Nat) (q : Int), k ≤ vars.length ∧ i = .int .i64 k ∧ p = .int .i64 q ∧ q = prevI vars k ∧ -1 ≤ q ∧ ∀ j, j < k → (0 ≤ ix vars j ∧ ix vars j < (n : Int)) ∧ (0 < j → ix vars (j - 1) < ix vars j)) (fun _ i => vars.length - (intOf i).toNat)
  case atStart => exact ⟨0, -1, Nat.zero_le _, rfl, rfl, rfl, by omega, fun j hj => by omega⟩
  case round =>
    obtain ⟨k, q, hk, rfl, rfl, hq, hq1, hj⟩ := hrel
    have HJ := Lib.hid hj; clear hj
    have HQ := Lib.hid hq; clear hq
    by_cases hlt : k < vars.length
    · obtain ⟨b2, o2, rfl, hc⟩ := G2.out k hlt
      have HP : Hid (0 < k → q = ix vars (k - 1)) := Lib.hid (fun h => by rw [HQ.out, prevI, if_neg (by omega)])
      have HR : Hid (Rising (n : Int) vars → q < ix vars k ∧ ix vars k < n) := Lib.hid (fun h => by
        have h1 := h k hlt
        refine ⟨?_, h1.1.2⟩
        by_cases e : k = 0
        · have : q = -1 := by rw [HQ.out, prevI, if_pos e]
          omega
        · rw [HP.out (by omega)]; exact h1.2 (by omega))
      obtain ⟨x, hx⟩ : ∃ x, ix vars k = x := ⟨_, rfl⟩
      rw [hx] at hc HR
      have HX := Lib.hid hx; clear hx
      by_cases h0 : x ≤ q
      · have HB : Hid (risingB (n : Int) vars = false) := Lib.hid (risingB_false (fun h => by have := HR.out h; omega))
        go_wp2
        go_ret
        exact ⟨ret_bool HB.out.symm, rfl⟩
      by_cases h9 : (n : Int) ≤ x
      · have HB : Hid (risingB (n : Int) vars = false) := Lib.hid (risingB_false (fun h => by have := HR.out h; omega))
        go_wp2
        go_ret
        exact ⟨ret_bool HB.out.symm, rfl⟩
      have HJ2 : Hid (∀ j, j < k + 1 → (0 ≤ ix vars j ∧ ix vars j < (n : Int)) ∧ (0 < j → ix vars (j - 1) < ix vars j)) := Lib.hid (fun j hj => by
        by_cases e : j = k
        · subst e; rw [HX.out]
          refine ⟨by omega, fun h => ?_⟩
          rw [← HP.out h]; omega
        · exact HJ.out j (by omega))
      go_wp2
      go_round
      case rel => exact ⟨k + 1, x, by omega, by go_num, rfl, by rw [prevI_succ, HX.out], by omega, HJ2.out⟩
      case measure => simp [intOf]; omega
    · have HB : Hid (risingB (n : Int) vars = true) := Lib.hid (risingB_true.2 (fun j hj => HJ.out j (by omega)))
      go_wp2
      go_ret
      exact ⟨ret_bool HB.out.symm, rfl⟩
set_option maxHeartbeats 400000 in
theorem swInput_b (b : Bool) (v1 v2 v3 : Value) (s : List Vr) (l : List Pe) (vars : List Int) (w : World) (hb : inB s l vars = b) (h1 : Vrs w v1 s) (hw : WfV s) (h2 : Pes w v2 l) (h3 : Ints w v3 vars) :
    Calls Try.prog 16 #[v1, v2, v3] w fun e w' => e = .returned (.bool b) ∧ Ext w w' := by
  subst hb
  have H1 := Lib.hid h1; clear h1
  have H2 := Lib.hid h2; clear h2
  have H3 := Lib.hid h3; clear h3
  have HW := Lib.hid hw; clear hw
  cases hs : kvB s vars
  · have HS := Lib.hid hs
    have HB : Hid (inB s l vars = false) := Lib.hid (by simp [inB, hs])
    clear hs
    go_enter Try.func16, Try.ntmps16
    go_wp2_with fail
    refine (swVars_b false _ _ s vars _ HS.out H1.out HW.out H3.out).mono ?_
    rintro e w1 ⟨rfl, u1⟩
    go_wp2
    go_ret
    exact ⟨ret_bool HB.out.symm, u1⟩
  · have HS := Lib.hid hs
    have HSP := Lib.hid (kvB_true.1 hs).1
    have HB : Hid (inB s l vars = datB s l) := Lib.hid (by simp [inB, hs])
    clear hs
    go_enter Try.func16, Try.ntmps16
    go_wp2_with fail
    refine (swVars_b true _ _ s vars _ HS.out H1.out HW.out H3.out).mono ?_
    rintro e w1 ⟨rfl, u1⟩
    go_wp2_with fail
    refine (dGood_b (datB s l) _ _ s l _ rfl (H1.out.ext u1) HSP.out (H2.out.ext u1)).mono ?_
    rintro e w2 ⟨rfl, u2⟩
    go_wp2
    go_ret
    exact ⟨ret_bool HB.out.symm, u1.trans u2⟩
set_option maxHeartbeats 400000 in
theorem areKeyed_b (b : Bool) (v1 v2 v3 : Value) (s : List Vr) (l : List Pe) (vars : List Int) (w : World) (hb : inB s l vars = b) (h1 : Vrs w v1 s) (hw : WfV s) (h2 : Pes w v2 l) (h3 : Ints w v3 vars) :
    Calls Try.prog 22 #[v1, v2, v3] w fun e w' => e = .returned (.bool b) ∧ Ext w w' := by
  subst hb
  have H1 := Lib.hid h1; clear h1
  have H2 := Lib.hid h2; clear h2
  have H3 := Lib.hid h3; clear h3
  have HW := Lib.hid hw; clear hw
  cases hs : schB s
  · have HS := Lib.hid hs
    have HB : Hid (inB s l vars = false) := Lib.hid (by simp [inB, kvB, hs])
    clear hs
    go_enter Try.func22, Try.ntmps22
    go_wp2_with fail
    refine (IsSchema_b false _ s _ HS.out H1.out HW.out).mono ?_
    rintro e w1 ⟨rfl, u1⟩
    go_wp2
    go_ret
    exact ⟨ret_bool HB.out.symm, u1⟩
  cases hd : datB s l
  · have HS := Lib.hid hs
    have HD := Lib.hid hd
    have HB : Hid (inB s l vars = false) := Lib.hid (by simp [inB, hd])
    clear hs hd
    go_enter Try.func22, Try.ntmps22
    go_wp2_with fail
    refine (IsSchema_b true _ s _ HS.out H1.out HW.out).mono ?_
    rintro e w1 ⟨rfl, u1⟩
    go_wp2_with fail
    refine (isData_b false _ _ s l _ HD.out (H1.out.ext u1) (H2.out.ext u1)).mono ?_
    rintro e w2 ⟨rfl, u2⟩
    go_wp2
    go_ret
    exact ⟨ret_bool HB.out.symm, u1.trans u2⟩
  · have HS := Lib.hid hs
    have HD := Lib.hid hd
    have HB : Hid (inB s l vars = risingB (s.length : Int) vars) := Lib.hid (by simp [inB, kvB, hs, hd])
    clear hs hd
    go_enter Try.func22, Try.ntmps22
    go_wp2_with fail
    refine (IsSchema_b true _ s _ HS.out H1.out HW.out).mono ?_
    rintro e w1 ⟨rfl, u1⟩
    go_wp2_with fail
    refine (isData_b true _ _ s l _ HD.out (H1.out.ext u1) (H2.out.ext u1)).mono ?_
    rintro e w2 ⟨rfl, u2⟩
    go_wp2_with fail
    refine (areVars_b (risingB (s.length : Int) vars) _ _ s vars _ rfl (H1.out.ext (u1.trans u2)) (H3.out.ext (u1.trans u2))).mono ?_
    rintro e w3 ⟨rfl, rfl⟩
    go_wp2
    go_ret
    exact ⟨ret_bool HB.out.symm, u1.trans u2⟩

noncomputable def koB (s : List Vr) (r : Pe) (vars : List Int) : Bool := kvB s vars && recB s r
noncomputable def koV (s : List Vr) (r : Pe) (vars : List Int) : Int := if koB s r vars = true then keyL s r.vals vars else 0
theorem PeR.form {w : World} {v : Value} {r : Pe} (h : PeR w v r) : ∃ a c, v = .agg #[.int .i64 r.area, .int .i64 r.house, .slice a r.vals.length c] ∧ r.vals.length ≤ 9223372036854775807 := by
  obtain ⟨rv, rfl, a, c, rfl, h1, h2, _⟩ := h
  exact ⟨a, c, rfl, by omega⟩
theorem PeR.f2 {w : World} {r : Pe} {rv : Value} {A H : Int} (h : PeR w (.agg #[.int .i64 A, .int .i64 H, rv]) r) : Ints w rv r.vals := by
  obtain ⟨x, e, h⟩ := h
  simp only [Value.agg.injEq, Array.mk.injEq, List.cons.injEq, and_true] at e
  obtain ⟨_, _, rfl⟩ := e
  exact h

end Go.Proofs.Ytedkhopclgjicaa
