/- Whether values, records and data fit a schema: the spec's and the program's checks. -/
import Derived.Test.YtedkhopclgjicaaSch
namespace Go.Proofs.Ytedkhopclgjicaa
open Go.RowKit

def ValP (s : List Vr) (xs : List Int) (k : Nat) : Prop := 0 ≤ ix xs k ∧ ix xs k < (vrAt s k).lev
def FitP (s : List Vr) (xs : List Int) : Prop := xs.length = s.length ∧ ∀ k, k < s.length → ValP s xs k
open Classical in
noncomputable def fitB (s : List Vr) (xs : List Int) : Bool := decide (FitP s xs)
theorem fitB_true {s : List Vr} {xs : List Int} : fitB s xs = true ↔ FitP s xs := by simp [fitB]
theorem fitB_not {s : List Vr} {xs : List Int} (h : ¬ FitP s xs) : fitB s xs = false := by simp [fitB, h]
def RecP (s : List Vr) (r : Pe) : Prop := (0 ≤ r.area ∧ r.area ≤ 29) ∧ (0 ≤ r.house ∧ r.house ≤ 999) ∧ FitP s r.vals
open Classical in
noncomputable def recB (s : List Vr) (r : Pe) : Bool := decide (RecP s r)
theorem recB_true {s : List Vr} {r : Pe} : recB s r = true ↔ RecP s r := by simp [recB]
theorem recB_not {s : List Vr} {r : Pe} (h : ¬ RecP s r) : recB s r = false := by simp [recB, h]
def DatP (s : List Vr) (l : List Pe) : Prop := l.length ≤ 40 ∧ ∀ k, k < l.length → RecP s (peAt l k)
open Classical in
noncomputable def datB (s : List Vr) (l : List Pe) : Bool := decide (DatP s l)
theorem datB_true {s : List Vr} {l : List Pe} : datB s l = true ↔ DatP s l := by simp [datB]
theorem datB_not {s : List Vr} {l : List Pe} (h : ¬ DatP s l) : datB s l = false := by simp [datB, h]

set_option maxRecDepth 100000 in
set_option maxHeartbeats 800000 in
theorem sFits_b (b : Bool) (v1 v2 : Value) (s : List Vr) (xs : List Int) (w : World) (hb : fitB s xs = b) (h1 : Vrs w v1 s) (hs : SchP s) (h2 : Ints w v2 xs) :
    Calls Try.prog 39 #[v1, v2] w fun e w' => e = .returned (.bool b) ∧ Ext w w' := by
  subst hb
  obtain ⟨a1, c1, rfl, e1, e2, g1⟩ := h1
  obtain ⟨a2, c2, rfl, e3, e4, g2⟩ := h2
  have G1 := Lib.hid g1; clear g1
  have G2 := Lib.hid g2; clear g2
  have HW : Hid (∀ k, k < s.length → 2 ≤ (vrAt s k).lev ∧ (vrAt s k).lev ≤ 8) := Lib.hid (fun k hk => (hs.2 k hk).2.1)
  clear hs
  by_cases hl : xs.length = s.length
  · have hb : ((xs.length : Int) != (s.length : Int)) = false := by simp [hl]
    have HL := Lib.hid hl; clear hl
    go_enter Try.func39, Try.ntmps39
    go_wp2
    go_loopw [14] (fun i wr => ∃ k : Nat, k ≤ s.length ∧ i = .int .i64 k ∧ (∀ j, j < k → ValP s xs j) ∧ Ext w wr) (fun i _ => s.length - (intOf i).toNat)
    case atStart => exact ⟨0, Nat.zero_le _, rfl, (fun j hj => by omega), Ext.refl w⟩
    case round =>
      obtain ⟨k, hk, rfl, hj, hx⟩ := hrel
      obtain ⟨wo, rfl⟩ : ∃ wo : World, wo = wr := ⟨_, rfl⟩
      have HJ := Lib.hid hj; clear hj
      by_cases hlt : k < s.length
      · have hlt2 : k < xs.length := by rw [HL.out]; exact hlt
        obtain ⟨b1, o1, rfl, hc0, hc1⟩ := (G1.out.ext hx).at_ hlt
        obtain ⟨b2, o2, rfl, hc2'⟩ := G2.out k hlt2
        have hc2 := Ext.cell (hx.alloc (.cells #[.string (vrAt s k).name, .int .i64 (vrAt s k).lev] 49)) hc2'
        clear hc2'
        have hlb := HW.out k hlt
        have HVP : Hid (ValP s xs k ↔ 0 ≤ ix xs k ∧ ix xs k < (vrAt s k).lev) := Lib.hid Iff.rfl
        obtain ⟨nm, hnm⟩ : ∃ nm, (vrAt s k).name = nm := ⟨_, rfl⟩
        obtain ⟨lv, hlv⟩ : ∃ lv, (vrAt s k).lev = lv := ⟨_, rfl⟩
        obtain ⟨x, hxx⟩ : ∃ x, ix xs k = x := ⟨_, rfl⟩
        rw [hnm] at hc0 hc2
        rw [hlv] at hc1 hc2 hlb HVP
        rw [hxx] at hc2 HVP
        clear hnm hlv hxx
        have bx := Box.new wo 49 #[.string nm, .int .i64 lv] rfl
        have k1 := bx.cell 1 (by simp)
        have hk0 : (0 : Int) ≤ (k : Int) := by omega
        have hk1 : (k : Int) < (xs.length : Int) := by omega
        have hwr : IntKind.i64.wrap (lv - 1) = lv - 1 := IntWalk.i64_in _ (by omega)
        by_cases hin : 0 ≤ x ∧ x < lv
        · have hd : (decide ((0 : Int) ≤ x) && decide (x ≤ lv - 1)) = true := by simp; omega
          have HD := Lib.hid hd; clear hd
          have HJ2 : Hid (∀ j, j < k + 1 → ValP s xs j) := Lib.hid (fun j hj => by
            by_cases e : j = k
            · subst e; exact HVP.out.2 hin
            · exact HJ.out j (by omega))
          go_wp2_with fail
          go_quiet ((go_at_call 38; exact Calls.quiet_of_same (l1In_b true x 0 (lv - 1) _ HD.out)))
          go_wp2
          go_roundw
          case rel => exact ⟨k + 1, by omega, by go_num, HJ2.out, (hx.alloc _).drewN _⟩
          case measure => simp [intOf]; omega
        · have hd : (decide ((0 : Int) ≤ x) && decide (x ≤ lv - 1)) = false := by
            apply Bool.eq_false_iff.2; intro e; simp at e; omega
          have HD := Lib.hid hd; clear hd
          have HB : Hid (fitB s xs = false) := Lib.hid (fitB_not (fun h => hin (HVP.out.1 (h.2 k hlt))))
          go_wp2_with fail
          go_quiet ((go_at_call 38; exact Calls.quiet_of_same (l1In_b false x 0 (lv - 1) _ HD.out)))
          go_wp2
          go_ret
          exact ⟨ret_bool HB.out.symm, (hx.alloc _).drewN _⟩
      · have HB : Hid (fitB s xs = true) := Lib.hid (fitB_true.2 ⟨HL.out, fun j hj => HJ.out j (by omega)⟩)
        go_wp2
        go_ret
        exact ⟨ret_bool HB.out.symm, hx⟩
  · have hb : ((xs.length : Int) != (s.length : Int)) = true := by simp; omega
    have HB : Hid (fitB s xs = false) := Lib.hid (fitB_not (fun h => hl h.1))
    go_enter Try.func39, Try.ntmps39
    go_wp2
    go_ret
    exact ⟨ret_bool HB.out.symm, Ext.refl w⟩
set_option maxRecDepth 100000 in
set_option maxHeartbeats 800000 in
theorem areValues_b (b : Bool) (v1 v2 : Value) (s : List Vr) (xs : List Int) (w : World) (hb : fitB s xs = b) (h1 : Vrs w v1 s) (h2 : Ints w v2 xs) :
    Calls Try.prog 41 #[v1, v2] w fun e w' => e = .returned (.bool b) ∧ w' = w := by
  subst hb
  obtain ⟨a1, c1, rfl, e1, e2, g1⟩ := h1
  obtain ⟨a2, c2, rfl, e3, e4, g2⟩ := h2
  have G1 := Lib.hid g1; clear g1
  have G2 := Lib.hid g2; clear g2
  by_cases hl : xs.length = s.length
  · have hb : ((xs.length : Int) != (s.length : Int)) = false := by simp [hl]
    have HL := Lib.hid hl; clear hl
    go_enter Try.func41, Try.ntmps41
    go_wp2
    go_loop [14] (fun i => ∃ k : Nat, k ≤ xs.length ∧ i = .int .i64 k ∧ (∀ j, j < k → ValP s xs j)) (fun i => xs.length - (intOf i).toNat)
    case atStart => exact ⟨0, Nat.zero_le _, rfl, (fun j hj => by omega)⟩
    case round =>
      obtain ⟨k, hk, rfl, hj⟩ := hrel
      have HJ := Lib.hid hj; clear hj
      by_cases hlt : k < xs.length
      · have hlt2 : k < s.length := by rw [← HL.out]; exact hlt
        obtain ⟨b1, o1, rfl, hc0, hc1⟩ := G1.out.at_ hlt2
        obtain ⟨b2, o2, rfl, hc2⟩ := G2.out k hlt
        have HVP : Hid (ValP s xs k ↔ 0 ≤ ix xs k ∧ ix xs k < (vrAt s k).lev) := Lib.hid Iff.rfl
        clear hc0
        obtain ⟨lv, hlv⟩ : ∃ lv, (vrAt s k).lev = lv := ⟨_, rfl⟩
        obtain ⟨x, hxx⟩ : ∃ x, ix xs k = x := ⟨_, rfl⟩
        rw [hlv] at hc1 HVP
        rw [hxx] at hc2 HVP
        clear hlv hxx
        by_cases h0 : x < 0
        · have HB : Hid (fitB s xs = false) := Lib.hid (fitB_not (fun h => by have := HVP.out.1 (h.2 k hlt2); omega))
          go_wp2
          go_ret
          exact ⟨ret_bool HB.out.symm, rfl⟩
        by_cases h9 : lv ≤ x
        · have HB : Hid (fitB s xs = false) := Lib.hid (fitB_not (fun h => by have := HVP.out.1 (h.2 k hlt2); omega))
          go_wp2
          go_ret
          exact ⟨ret_bool HB.out.symm, rfl⟩
        have HJ2 : Hid (∀ j, j < k + 1 → ValP s xs j) := Lib.hid (fun j hj => by
          by_cases e : j = k
          · subst e; exact HVP.out.2 ⟨by omega, by omega⟩
          · exact HJ.out j (by omega))
        go_wp2
        go_round
        case rel => exact ⟨k + 1, by omega, by go_num, HJ2.out⟩
        case measure => simp [intOf]; omega
      · have HB : Hid (fitB s xs = true) := Lib.hid (fitB_true.2 ⟨HL.out, fun j hj => HJ.out j (by have := HL.out; omega)⟩)
        go_wp2
        go_ret
        exact ⟨ret_bool HB.out.symm, rfl⟩
  · have hb : ((xs.length : Int) != (s.length : Int)) = true := by simp; omega
    have HB : Hid (fitB s xs = false) := Lib.hid (fitB_not (fun h => hl h.1))
    go_enter Try.func41, Try.ntmps41
    go_wp2
    go_ret
    exact ⟨ret_bool HB.out.symm, rfl⟩
set_option maxHeartbeats 800000 in
theorem rGood_b (b : Bool) (v1 v2 : Value) (s : List Vr) (r : Pe) (w : World) (hb : recB s r = b) (h1 : Vrs w v1 s) (hs : SchP s) (h2 : PeR w v2 r) :
    Calls Try.prog 29 #[v1, v2] w fun e w' => e = .returned (.bool b) ∧ Ext w w' := by
  subst hb
  have H1 := Lib.hid h1
  obtain ⟨a1, c1, rfl, e1, e2, g1⟩ := h1
  clear g1
  obtain ⟨rv, rfl, hi⟩ := h2
  have HI := Lib.hid hi
  obtain ⟨a2, c2, rfl, p1, p2, p3⟩ := hi
  clear p3
  have HS := Lib.hid hs; clear hs
  have HRP : Hid (RecP s r ↔ (0 ≤ r.area ∧ r.area ≤ 29) ∧ (0 ≤ r.house ∧ r.house ≤ 999) ∧ FitP s r.vals) := Lib.hid Iff.rfl
  obtain ⟨R, hR⟩ : ∃ R, recB s r = R := ⟨_, rfl⟩
  have HR : Hid (R = true ↔ RecP s r) := Lib.hid (by rw [← hR]; exact recB_true)
  rw [hR]; clear hR
  obtain ⟨A, hA⟩ : ∃ A, r.area = A := ⟨_, rfl⟩
  obtain ⟨H, hH⟩ : ∃ H, r.house = H := ⟨_, rfl⟩
  obtain ⟨xs, hxs⟩ : ∃ xs, r.vals = xs := ⟨_, rfl⟩
  rw [hA, hH, hxs] at HRP
  rw [hxs] at HI p1
  rw [hA, hH, hxs]
  clear hA hH hxs
  have u0 := (Ext.refl w).alloc (.cells #[.int .i64 A, .int .i64 H, .slice a2 xs.length c2] 46)
  have b0 := Box.new w 46 #[.int .i64 A, .int .i64 H, .slice a2 xs.length c2] rfl
  have k2 := b0.cell 2 (by simp)
  have HF : Hid (¬ RecP s r → R = false) := Lib.hid (fun h => by cases hR : R; rfl; exact absurd (HR.out.1 hR) h)
  by_cases hA : 0 ≤ A ∧ A ≤ 29
  · have hd : (decide ((0 : Int) ≤ A) && decide (A ≤ 29)) = true := by simp; omega
    have HD := Lib.hid hd; clear hd
    by_cases hH : 0 ≤ H ∧ H ≤ 999
    · have hd2 : (decide ((0 : Int) ≤ H) && decide (H ≤ 999)) = true := by simp; omega
      have HD2 := Lib.hid hd2; clear hd2
      have HRF : Hid (R = fitB s xs) := Lib.hid (by
        cases hf : fitB s xs
        · exact HF.out (fun h => by have := fitB_true.2 (HRP.out.1 h).2.2; rw [hf] at this; cases this)
        · exact HR.out.2 (HRP.out.2 ⟨hA, hH, fitB_true.1 hf⟩))
      go_enter Try.func29, Try.ntmps29
      go_wp2_with fail
      refine (l1In_b true A 0 29 _ HD.out).mono ?_
      rintro e w2 ⟨rfl, rfl⟩
      go_wp2_with fail
      refine (l1In_b true H 0 999 _ HD2.out).mono ?_
      rintro e w2 ⟨rfl, rfl⟩
      go_wp2_with fail
      refine (sFits_b R _ _ s xs _ HRF.out.symm (H1.out.ext u0) HS.out (HI.out.ext u0)).mono ?_
      rintro e w3 ⟨rfl, u3⟩
      go_wp2
      go_ret
      exact ⟨rfl, u0.trans u3⟩
    · have hd2 : (decide ((0 : Int) ≤ H) && decide (H ≤ 999)) = false := by
        apply Bool.eq_false_iff.2; intro e; simp at e; omega
      have HD2 := Lib.hid hd2; clear hd2
      have HB := Lib.hid (HF.out (fun h => hH (HRP.out.1 h).2.1))
      go_enter Try.func29, Try.ntmps29
      go_wp2_with fail
      refine (l1In_b true A 0 29 _ HD.out).mono ?_
      rintro e w2 ⟨rfl, rfl⟩
      go_wp2_with fail
      refine (l1In_b false H 0 999 _ HD2.out).mono ?_
      rintro e w2 ⟨rfl, rfl⟩
      go_wp2
      go_ret
      exact ⟨ret_bool HB.out.symm, u0⟩
  · have hd : (decide ((0 : Int) ≤ A) && decide (A ≤ 29)) = false := by
      apply Bool.eq_false_iff.2; intro e; simp at e; omega
    have HD := Lib.hid hd; clear hd
    have HB := Lib.hid (HF.out (fun h => hA (HRP.out.1 h).1))
    go_enter Try.func29, Try.ntmps29
    go_wp2_with fail
    refine (l1In_b false A 0 29 _ HD.out).mono ?_
    rintro e w2 ⟨rfl, rfl⟩
    go_wp2
    go_ret
    exact ⟨ret_bool HB.out.symm, u0⟩
set_option maxHeartbeats 800000 in
theorem isRecord_b (b : Bool) (v1 v2 : Value) (s : List Vr) (r : Pe) (w : World) (hb : recB s r = b) (h1 : Vrs w v1 s) (h2 : PeR w v2 r) :
    Calls Try.prog 35 #[v1, v2] w fun e w' => e = .returned (.bool b) ∧ Ext w w' := by
  subst hb
  have H1 := Lib.hid h1
  obtain ⟨a1, c1, rfl, e1, e2, g1⟩ := h1
  clear g1
  obtain ⟨rv, rfl, hi⟩ := h2
  have HI := Lib.hid hi
  obtain ⟨a2, c2, rfl, p1, p2, p3⟩ := hi
  clear p3
  have HRP : Hid (RecP s r ↔ (0 ≤ r.area ∧ r.area ≤ 29) ∧ (0 ≤ r.house ∧ r.house ≤ 999) ∧ FitP s r.vals) := Lib.hid Iff.rfl
  obtain ⟨R, hR⟩ : ∃ R, recB s r = R := ⟨_, rfl⟩
  have HR : Hid (R = true ↔ RecP s r) := Lib.hid (by rw [← hR]; exact recB_true)
  rw [hR]; clear hR
  obtain ⟨A, hA⟩ : ∃ A, r.area = A := ⟨_, rfl⟩
  obtain ⟨H, hH⟩ : ∃ H, r.house = H := ⟨_, rfl⟩
  obtain ⟨xs, hxs⟩ : ∃ xs, r.vals = xs := ⟨_, rfl⟩
  rw [hA, hH, hxs] at HRP
  rw [hxs] at HI p1
  rw [hA, hH, hxs]
  clear hA hH hxs
  have u0 := (Ext.refl w).alloc (.cells #[.int .i64 A, .int .i64 H, .slice a2 xs.length c2] 46)
  have b0 := Box.new w 46 #[.int .i64 A, .int .i64 H, .slice a2 xs.length c2] rfl
  have k2 := b0.cell 2 (by simp)
  have HF : Hid (¬ RecP s r → R = false) := Lib.hid (fun h => by cases hR : R; rfl; exact absurd (HR.out.1 hR) h)
  by_cases hA0 : 0 ≤ A
  · by_cases hA9 : A ≤ 29
    · by_cases hH0 : 0 ≤ H
      · by_cases hH9 : H ≤ 999
        · have HRF : Hid (R = fitB s xs) := Lib.hid (by
            cases hf : fitB s xs
            · exact HF.out (fun h => by have := fitB_true.2 (HRP.out.1 h).2.2; rw [hf] at this; cases this)
            · exact HR.out.2 (HRP.out.2 ⟨⟨hA0, hA9⟩, ⟨hH0, hH9⟩, fitB_true.1 hf⟩))
          go_enter Try.func35, Try.ntmps35
          go_wp2_with fail
          refine (areValues_b R _ _ s xs _ HRF.out.symm (H1.out.ext u0) (HI.out.ext u0)).mono ?_
          rintro e w3 ⟨rfl, rfl⟩
          go_wp2
          go_ret
          exact ⟨rfl, u0⟩
        · have HB := Lib.hid (HF.out (fun h => hH9 (HRP.out.1 h).2.1.2))
          go_enter Try.func35, Try.ntmps35
          go_wp2
          go_ret
          exact ⟨ret_bool HB.out.symm, u0⟩
      · have HB := Lib.hid (HF.out (fun h => hH0 (HRP.out.1 h).2.1.1))
        go_enter Try.func35, Try.ntmps35
        go_wp2
        go_ret
        exact ⟨ret_bool HB.out.symm, u0⟩
    · have HB := Lib.hid (HF.out (fun h => hA9 (HRP.out.1 h).1.2))
      go_enter Try.func35, Try.ntmps35
      go_wp2
      go_ret
      exact ⟨ret_bool HB.out.symm, u0⟩
  · have HB := Lib.hid (HF.out (fun h => hA0 (HRP.out.1 h).1.1))
    go_enter Try.func35, Try.ntmps35
    go_wp2
    go_ret
    exact ⟨ret_bool HB.out.symm, u0⟩
set_option maxHeartbeats 800000 in
theorem dGood_b (b : Bool) (v1 v2 : Value) (s : List Vr) (l : List Pe) (w : World) (hb : datB s l = b) (h1 : Vrs w v1 s) (hs : SchP s) (h2 : Pes w v2 l) :
    Calls Try.prog 17 #[v1, v2] w fun e w' => e = .returned (.bool b) ∧ Ext w w' := by
  subst hb
  have H1 := Lib.hid h1
  obtain ⟨a1, c1, rfl, e1, e2, g1⟩ := h1
  clear g1
  obtain ⟨a2, c2, rfl, e3, e4, g2⟩ := h2
  have G2 := Lib.hid g2; clear g2
  have HS := Lib.hid hs; clear hs
  go_enter Try.func17, Try.ntmps17
  go_wp2
  go_loopw [9] (fun i wr => ∃ k : Nat, k ≤ l.length ∧ i = .int .i64 k ∧ (∀ j, j < k → RecP s (peAt l j)) ∧ Ext w wr) (fun i _ => l.length - (intOf i).toNat)
  case atStart => exact ⟨0, Nat.zero_le _, rfl, (fun j hj => by omega), Ext.refl w⟩
  case round =>
    obtain ⟨k, hk, rfl, hj, hx⟩ := hrel
    obtain ⟨wo, rfl⟩ : ∃ wo : World, wo = wr := ⟨_, rfl⟩
    have HJ := Lib.hid hj; clear hj
    by_cases hlt : k < l.length
    · obtain ⟨b, o, ar, cr, rfl, hc0, hc1, hc2, r1, r2, r3⟩ := (G2.out.ext hx).at_ hlt
      have hpe : PeR wo (.agg #[.int .i64 (peAt l k).area, .int .i64 (peAt l k).house, .slice ar (peAt l k).vals.length cr]) (peAt l k) := ⟨_, rfl, ar, cr, rfl, r1, r2, r3⟩
      have HPE := Lib.hid hpe; clear hpe r3
      have HT : Hid (recB s (peAt l k) = true ↔ RecP s (peAt l k)) := Lib.hid recB_true
      have HB0 : Hid (¬ RecP s (peAt l k) → datB s l = false) := Lib.hid (fun h => datB_not (fun q => h (q.2 k hlt)))
      obtain ⟨r, hr⟩ : ∃ r, peAt l k = r := ⟨_, rfl⟩
      rw [hr] at hc0 hc1 hc2 r1 HPE HT HB0
      obtain ⟨A, hA⟩ : ∃ A, r.area = A := ⟨_, rfl⟩
      obtain ⟨H, hH⟩ : ∃ H, r.house = H := ⟨_, rfl⟩
      obtain ⟨N, hN⟩ : ∃ N, r.vals.length = N := ⟨_, rfl⟩
      rw [hA] at hc0 HPE
      rw [hH] at hc1 HPE
      rw [hN] at hc2 r1 HPE
      have HRR := Lib.hid hr; clear hr hA hH hN
      have ux := (Ext.refl wo).alloc (.cells #[.int .i64 A, .int .i64 H, .slice ar N cr] 46)
      cases hrec : recB s r
      · have HREC := Lib.hid hrec
        have HB : Hid (datB s l = false) := Lib.hid (HB0.out (fun h => by have := HT.out.2 h; rw [hrec] at this; cases this))
        clear hrec
        go_wp2_with fail
        refine (rGood_b false _ _ s r _ HREC.out (H1.out.ext (hx.trans ux)) HS.out (HPE.out.ext ux)).mono ?_
        rintro e w3 ⟨rfl, u3⟩
        go_wp2
        go_ret
        exact ⟨ret_bool HB.out.symm, (hx.trans ux).trans u3⟩
      · have HREC := Lib.hid hrec
        have HJ2 : Hid (∀ j, j < k + 1 → RecP s (peAt l j)) := Lib.hid (fun j hj => by
          by_cases e : j = k
          · subst e; rw [HRR.out]; exact HT.out.1 hrec
          · exact HJ.out j (by omega))
        clear hrec
        go_wp2_with fail
        refine (rGood_b true _ _ s r _ HREC.out (H1.out.ext (hx.trans ux)) HS.out (HPE.out.ext ux)).mono ?_
        rintro e w3 ⟨rfl, u3⟩
        go_wp2
        go_roundw
        case rel => exact ⟨k + 1, by omega, by go_num, HJ2.out, (hx.trans ux).trans u3⟩
        case measure => simp [intOf]; omega
    · have HB : Hid (datB s l = decide ((l.length : Int) ≤ 40)) := Lib.hid (by
        by_cases h : l.length ≤ 40
        · rw [datB_true.2 ⟨h, fun j hj => HJ.out j (by omega)⟩]; symm; simp; omega
        · rw [datB_not (fun q => h q.1)]; symm; simp; omega)
      go_wp2
      go_ret
      exact ⟨ret_bool (by rw [HB.out]), hx⟩
set_option maxHeartbeats 800000 in
theorem isData_b (b : Bool) (v1 v2 : Value) (s : List Vr) (l : List Pe) (w : World) (hb : datB s l = b) (h1 : Vrs w v1 s) (h2 : Pes w v2 l) :
    Calls Try.prog 23 #[v1, v2] w fun e w' => e = .returned (.bool b) ∧ Ext w w' := by
  subst hb
  have H1 := Lib.hid h1
  obtain ⟨a1, c1, rfl, e1, e2, g1⟩ := h1
  clear g1
  obtain ⟨a2, c2, rfl, e3, e4, g2⟩ := h2
  have G2 := Lib.hid g2; clear g2
  by_cases h40 : 40 < l.length
  · have HB : Hid (datB s l = false) := Lib.hid (datB_not (fun h => by have := h.1; omega))
    go_enter Try.func23, Try.ntmps23
    go_wp2
    go_ret
    exact ⟨ret_bool HB.out.symm, Ext.refl w⟩
  go_enter Try.func23, Try.ntmps23
  go_wp2
  go_loopw [12] (fun i wr => ∃ k : Nat, k ≤ l.length ∧ i = .int .i64 k ∧ (∀ j, j < k → RecP s (peAt l j)) ∧ Ext w wr) (fun i _ => l.length - (intOf i).toNat)
  case atStart => exact ⟨0, Nat.zero_le _, rfl, (fun j hj => by omega), Ext.refl w⟩
  case round =>
    obtain ⟨k, hk, rfl, hj, hx⟩ := hrel
    obtain ⟨wo, rfl⟩ : ∃ wo : World, wo = wr := ⟨_, rfl⟩
    have HJ := Lib.hid hj; clear hj
    by_cases hlt : k < l.length
    · obtain ⟨b, o, ar, cr, rfl, hc0, hc1, hc2, r1, r2, r3⟩ := (G2.out.ext hx).at_ hlt
      have hpe : PeR wo (.agg #[.int .i64 (peAt l k).area, .int .i64 (peAt l k).house, .slice ar (peAt l k).vals.length cr]) (peAt l k) := ⟨_, rfl, ar, cr, rfl, r1, r2, r3⟩
      have HPE := Lib.hid hpe; clear hpe r3
      have HT : Hid (recB s (peAt l k) = true ↔ RecP s (peAt l k)) := Lib.hid recB_true
      have HB0 : Hid (¬ RecP s (peAt l k) → datB s l = false) := Lib.hid (fun h => datB_not (fun q => h (q.2 k hlt)))
      obtain ⟨r, hr⟩ : ∃ r, peAt l k = r := ⟨_, rfl⟩
      rw [hr] at hc0 hc1 hc2 r1 HPE HT HB0
      obtain ⟨A, hA⟩ : ∃ A, r.area = A := ⟨_, rfl⟩
      obtain ⟨H, hH⟩ : ∃ H, r.house = H := ⟨_, rfl⟩
      obtain ⟨N, hN⟩ : ∃ N, r.vals.length = N := ⟨_, rfl⟩
      rw [hA] at hc0 HPE
      rw [hH] at hc1 HPE
      rw [hN] at hc2 r1 HPE
      have HRR := Lib.hid hr; clear hr hA hH hN
      have ux := (Ext.refl wo).alloc (.cells #[.int .i64 A, .int .i64 H, .slice ar N cr] 46)
      cases hrec : recB s r
      · have HREC := Lib.hid hrec
        have HB : Hid (datB s l = false) := Lib.hid (HB0.out (fun h => by have := HT.out.2 h; rw [hrec] at this; cases this))
        clear hrec
        go_wp2_with fail
        refine (isRecord_b false _ _ s r _ HREC.out (H1.out.ext (hx.trans ux)) (HPE.out.ext ux)).mono ?_
        rintro e w3 ⟨rfl, u3⟩
        go_wp2
        go_ret
        exact ⟨ret_bool HB.out.symm, (hx.trans ux).trans u3⟩
      · have HREC := Lib.hid hrec
        have HJ2 : Hid (∀ j, j < k + 1 → RecP s (peAt l j)) := Lib.hid (fun j hj => by
          by_cases e : j = k
          · subst e; rw [HRR.out]; exact HT.out.1 hrec
          · exact HJ.out j (by omega))
        clear hrec
        go_wp2_with fail
        refine (isRecord_b true _ _ s r _ HREC.out (H1.out.ext (hx.trans ux)) (HPE.out.ext ux)).mono ?_
        rintro e w3 ⟨rfl, u3⟩
        go_wp2
        go_roundw
        case rel => exact ⟨k + 1, by omega, by go_num, HJ2.out, (hx.trans ux).trans u3⟩
        case measure => simp [intOf]; omega
    · have HB : Hid (datB s l = true) := Lib.hid (datB_true.2 ⟨by omega, fun j hj => HJ.out j (by omega)⟩)
      go_wp2
      go_ret
      exact ⟨ret_bool HB.out.symm, hx⟩
end Go.Proofs.Ytedkhopclgjicaa
