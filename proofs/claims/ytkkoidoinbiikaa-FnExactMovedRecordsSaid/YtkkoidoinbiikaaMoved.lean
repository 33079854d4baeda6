/- MovedRecords, the spec's and the program's. -/
import Derived.Test.YtkkoidoinbiikaaInp
import Derived.Test.YtkkoidoinbiikaaEqual
namespace Go.Proofs.Ytkkoidoinbiikaa
open Go.RowKit

set_option maxHeartbeats 400000 in
theorem l1Same_b (b : Bool) (v1 v2 : Value) (xs ys : List Int) (w : World) (hb : decide (xs = ys) = b) (h1 : Ints w v1 xs) (h2 : Ints w v2 ys) :
    Calls Try.prog 74 #[v1, v2] w fun e w' => e = .returned (.bool b) ∧ ∃ n, w' = w.drewN n := by
  subst hb
  obtain ⟨a1, c1, rfl, e1, e2, g1⟩ := h1
  obtain ⟨a2, c2, rfl, e3, e4, g2⟩ := h2
  have G1 := Lib.hid g1; clear g1
  have G2 := Lib.hid g2; clear g2
  have hl1 : xs.length ≤ 9223372036854775807 := by omega
  have hl2 : ys.length ≤ 9223372036854775807 := by omega
  go_enter Try.func74, Try.ntmps74
  by_cases hl : xs.length = ys.length
  · have hb : ((xs.length : Int) != (ys.length : Int)) = false := by simp [hl]
    have HL := Lib.hid hl; clear hl
    go_wp2
    go_loopw [13] (fun i wr => ∃ k : Nat, k ≤ xs.length ∧ i = .int .i64 k ∧ (∀ j, j < k → ix xs j = ix ys j) ∧ ∃ n, wr = w.drewN n) (fun i _ => xs.length - (intOf i).toNat)
    case atStart => exact ⟨0, Nat.zero_le _, rfl, fun j hj => by omega, 0, rfl⟩
    case round =>
      obtain ⟨k, hk, rfl, hj, n, rfl⟩ := hrel
      have HJ := Lib.hid hj; clear hj
      by_cases hlt : k < xs.length
      · have hlt2 : k < ys.length := by rw [← HL.out]; exact hlt
        obtain ⟨b1, o1, rfl, d1⟩ := G1.out k hlt
        obtain ⟨b2, o2, rfl, d2⟩ := G2.out k hlt2
        have hk0 : (0 : Int) ≤ (k : Int) := by omega
        have hk1 : (k : Int) < (xs.length : Int) := by omega
        have hk2 : (k : Int) < (ys.length : Int) := by omega
        by_cases he : ix xs k = ix ys k
        · have hne : (ix xs k != ix ys k) = false := by simp [he]
          have HE := Lib.hid he; clear he
          go_wp2_with fail
          go_quiet (fail)
          go_wp2
          go_roundw
          case rel => exact ⟨k + 1, by omega, by go_num, fun j hj => by
            by_cases e : j = k
            · subst e; exact HE.out
            · exact HJ.out j (by omega), n + nq, by simp⟩
          case measure => simp [intOf]; omega
        · have hne : (ix xs k != ix ys k) = true := by simp [he]
          have HE := Lib.hid he; clear he
          go_wp2_with fail
          go_quiet (fail)
          go_wp2
          go_ret
          refine ⟨ret_bool ?_, n + nq, by simp⟩
          have : xs ≠ ys := fun e => HE.out (by rw [e])
          simp [this]
      · go_wp2
        go_ret
        refine ⟨ret_bool ?_, _, rfl⟩
        have : xs = ys := list_ext_ix HL.out (fun j hj => HJ.out j (by omega))
        simp [this]
  · have hb : ((xs.length : Int) != (ys.length : Int)) = true := by simp; omega
    go_wp2
    go_ret
    refine ⟨ret_bool ?_, 0, rfl⟩
    have : xs ≠ ys := fun e => hl (by rw [e])
    simp [this]

/-- two data sets with the same values -/
def MvP (s : List Vr) (a b : List Pe) : Prop := (SchP s ∧ DatP s a ∧ DatP s b ∧ a.length = b.length) ∧ ∀ k, k < a.length → (peAt a k).vals = (peAt b k).vals
/-- the records that differ in area or house, among the first k -/
def movedTo (a b : List Pe) : Nat → List Int
  | 0 => []
  | k + 1 => movedTo a b k ++ (if (peAt a k).area = (peAt b k).area ∧ (peAt a k).house = (peAt b k).house then [] else [(k : Int)])
theorem movedTo_len (a b : List Pe) : ∀ k, (movedTo a b k).length ≤ k
  | 0 => Nat.le_refl 0
  | k + 1 => by
    have h := movedTo_len a b k
    simp only [movedTo, List.length_append]
    split <;> simp <;> omega
open Classical in
noncomputable def mvB (s : List Vr) (a b : List Pe) : Bool := decide (MvP s a b)
noncomputable def mvV (s : List Vr) (a b : List Pe) : List Int := if mvB s a b = true then movedTo a b a.length else []
theorem mvB_true {s : List Vr} {a b : List Pe} : mvB s a b = true ↔ MvP s a b := by simp [mvB]
theorem mvB_not {s : List Vr} {a b : List Pe} (h : ¬ MvP s a b) : mvB s a b = false := by simp [mvB, h]
theorem mvV_len (s : List Vr) (a b : List Pe) : (mvV s a b).length ≤ 1048576 := by
  unfold mvV
  split
  · rename_i h
    have h1 := (mvB_true.1 h).1.2.1.1
    have h2 := movedTo_len a b a.length
    omega
  · simp
theorem retInts_nil {w w' : World} {b : Bool} (u : Ext w w') : RetInts (fun v' => .tuple #[v', .bool b]) w [] (.returned (.tuple #[.slice none 0 0, .bool b])) w' := ⟨_, rfl, Own.nil, u⟩
set_option maxRecDepth 100000 in
set_option maxHeartbeats 1600000 in
theorem specMovedRecords_c (v1 : Value) (s : List Vr) (v2 : Value) (a : List Pe) (v3 : Value) (b : List Pe) (w : World) (h1 : Vrs w v1 s) (h2 : Pes w v2 a) (h3 : Pes w v3 b) (hw : WfV s) :
    Calls Try.prog 37 #[v1, v2, v3] w (RetInts (fun v' => .tuple #[v', .bool (mvB s a b)]) w (mvV s a b)) := by
  have H1 := Lib.hid h1; clear h1
  have HW := Lib.hid hw; clear hw
  have H2 := Lib.hid h2
  have H3 := Lib.hid h3
  obtain ⟨aa, ca, rfl, e1, e2, g2⟩ := h2
  obtain ⟨ab, cb, rfl, e3, e4, g3⟩ := h3
  have G2 := Lib.hid g2; clear g2
  have G3 := Lib.hid g3; clear g3
  have HF : Hid (¬ MvP s a b → mvB s a b = false ∧ mvV s a b = []) := Lib.hid (fun h => by
    have := mvB_not h
    exact ⟨this, by simp [mvV, this]⟩)
  have HMV : Hid (MvP s a b → mvB s a b = true ∧ mvV s a b = movedTo a b a.length) := Lib.hid (fun h => by
    have := mvB_true.2 h
    exact ⟨this, by simp [mvV, this]⟩)
  obtain ⟨B, hB⟩ : ∃ B, mvB s a b = B := ⟨_, rfl⟩
  obtain ⟨V, hV⟩ : ∃ V, mvV s a b = V := ⟨_, rfl⟩
  rw [hB, hV] at HF HMV
  rw [hB, hV]
  clear hB hV
  cases hs : sdB s a
  · obtain ⟨hB, hV⟩ := HF.out (fun h => by have := sdB_true.2 ⟨h.1.1, h.1.2.1⟩; rw [hs] at this; cases this)
    subst hB hV
    have HS := Lib.hid hs; clear hs HF HMV
    go_enter Try.func37, Try.ntmps37
    go_wp2_with fail
    refine (dInput_b false _ _ s a _ HS.out H1.out HW.out H2.out).mono ?_
    rintro e w1 ⟨rfl, u1⟩
    go_wp2
    go_ret2
    exact retInts_nil u1
  have HS := Lib.hid hs
  have HSP := Lib.hid (sdB_true.1 hs)
  clear hs
  cases hd : datB s b
  · obtain ⟨hB, hV⟩ := HF.out (fun h => by have := datB_true.2 h.1.2.2.1; rw [hd] at this; cases this)
    subst hB hV
    have HD := Lib.hid hd; clear hd HF HMV
    go_enter Try.func37, Try.ntmps37
    go_wp2_with fail
    refine (dInput_b true _ _ s a _ HS.out H1.out HW.out H2.out).mono ?_
    rintro e w1 ⟨rfl, u1⟩
    go_wp2_with fail
    refine (dGood_b false _ _ s b _ HD.out (H1.out.ext u1) HSP.out.1 (H3.out.ext u1)).mono ?_
    rintro e w2 ⟨rfl, u2⟩
    go_wp2
    go_ret2
    exact retInts_nil (u1.trans u2)
  have HD := Lib.hid hd
  have HDP := Lib.hid (datB_true.1 hd)
  clear hd
  by_cases hl : ¬ a.length = b.length
  · obtain ⟨hB, hV⟩ := HF.out (fun h => hl h.1.2.2.2)
    subst hB hV
    have hq : ((a.length : Int) != (b.length : Int)) = true := by simp; omega
    clear HF HMV hl
    go_enter Try.func37, Try.ntmps37
    go_wp2_with fail
    refine (dInput_b true _ _ s a _ HS.out H1.out HW.out H2.out).mono ?_
    rintro e w1 ⟨rfl, u1⟩
    go_wp2_with fail
    refine (dGood_b true _ _ s b _ HD.out (H1.out.ext u1) HSP.out.1 (H3.out.ext u1)).mono ?_
    rintro e w2 ⟨rfl, u2⟩
    have u0 := u1.trans u2
    go_wp2
    go_ret2
    exact retInts_nil u0
  have hl2 : a.length = b.length := Classical.byContradiction hl
  clear hl
  have hq : ((a.length : Int) != (b.length : Int)) = false := by simp [hl2]
  have HL := Lib.hid hl2; clear hl2
  have h40 : a.length ≤ 40 := HSP.out.2.1
  go_enter Try.func37, Try.ntmps37
  go_wp2_with fail
  refine (dInput_b true _ _ s a _ HS.out H1.out HW.out H2.out).mono ?_
  rintro e w1 ⟨rfl, u1⟩
  go_wp2_with fail
  refine (dGood_b true _ _ s b _ HD.out (H1.out.ext u1) HSP.out.1 (H3.out.ext u1)).mono ?_
  rintro e w2 ⟨rfl, u2⟩
  have u0 := u1.trans u2
  obtain ⟨wz, hwz⟩ : ∃ wz : World, w2 = wz := ⟨_, rfl⟩
  subst hwz
  go_wp2
  go_loopw [8, 30] (fun r i wr => ∃ k : Nat, k ≤ a.length ∧ i = .int .i64 k ∧ (∀ j, j < k → (peAt a j).vals = (peAt b j).vals) ∧ IRow w.heap.size wr r (movedTo a b k) ∧ Ext w wr) (fun _ i _ => a.length - (intOf i).toNat)
  case atStart => exact ⟨0, Nat.zero_le _, rfl, (fun j hj => by omega), IRow.nil, u0⟩
  case round =>
    obtain ⟨k, hk, rfl, hj, hr, hx⟩ := hrel
    obtain ⟨wo, rfl⟩ : ∃ wo : World, wo = wr := ⟨_, rfl⟩
    have HJ := Lib.hid hj; clear hj
    have HR := Lib.hid hr; clear hr
    by_cases hlt : k < a.length
    · have hltb : k < b.length := by rw [← HL.out]; exact hlt
      obtain ⟨b1, o1, ar1, cr1, rfl, hc0, hc1, hc2, p1, p2, p3⟩ := (G2.out.ext hx).at_ hlt
      obtain ⟨b2, o2, ar2, cr2, rfl, hd0', hd1', hd2', q1, q2, q3⟩ := (G3.out.ext hx).at_ hltb
      have HI1 : Hid (Ints wo (.slice ar1 (peAt a k).vals.length cr1) (peAt a k).vals) := Lib.hid ⟨ar1, cr1, rfl, p1, p2, p3⟩
      have HI2 : Hid (Ints wo (.slice ar2 (peAt b k).vals.length cr2) (peAt b k).vals) := Lib.hid ⟨ar2, cr2, rfl, q1, q2, q3⟩
      clear p3 q3
      have HMT : Hid (movedTo a b (k + 1) = movedTo a b k ++ (if (peAt a k).area = (peAt b k).area ∧ (peAt a k).house = (peAt b k).house then [] else [(k : Int)])) := Lib.hid rfl
      have hml := movedTo_len a b k
      obtain ⟨A, hA⟩ : ∃ A, (peAt a k).area = A := ⟨_, rfl⟩
      obtain ⟨H, hH⟩ : ∃ H, (peAt a k).house = H := ⟨_, rfl⟩
      obtain ⟨A2, hA2⟩ : ∃ A, (peAt b k).area = A := ⟨_, rfl⟩
      obtain ⟨H2', hH2⟩ : ∃ H, (peAt b k).house = H := ⟨_, rfl⟩
      rw [hA] at hc0 HMT
      rw [hH] at hc1 HMT
      rw [hA2] at hd0' HMT
      rw [hH2] at hd1' HMT
      clear hA hH hA2 hH2
      obtain ⟨N, hN⟩ : ∃ N, (peAt a k).vals.length = N := ⟨_, rfl⟩
      obtain ⟨N2, hN2⟩ : ∃ N, (peAt b k).vals.length = N := ⟨_, rfl⟩
      rw [hN] at hc2 HI1 p1
      rw [hN2] at hd2' HI2 q1
      clear hN hN2
      have ux := (Ext.refl wo).alloc (.cells #[.int .i64 A, .int .i64 H, .slice ar1 N cr1] 50)
      have bx := Box.new wo 50 #[.int .i64 A, .int .i64 H, .slice ar1 N cr1] rfl
      have k0 := bx.cell 0 (by simp)
      have k1 := bx.cell 1 (by simp)
      have k2 := bx.cell 2 (by simp)
      have hd0 := Ext.cell ux hd0'
      have hd1 := Ext.cell ux hd1'
      have hd2 := Ext.cell ux hd2'
      clear hd0' hd1' hd2'
      have hk0 : (0 : Int) ≤ (k : Int) := by omega
      have hk1 : (k : Int) < (b.length : Int) := by omega
      by_cases hv : (peAt a k).vals = (peAt b k).vals
      · have hdec : decide ((peAt a k).vals = (peAt b k).vals) = true := by simp [hv]
        have HJ2 : Hid (∀ j, j < k + 1 → (peAt a j).vals = (peAt b j).vals) := Lib.hid (fun j hj => by
          by_cases e : j = k
          · subst e; exact hv
          · exact HJ.out j (by omega))
        have HDC := Lib.hid hdec; clear hdec hv
        by_cases hsame : A = A2 ∧ H = H2'
        · have HMT2 : Hid (movedTo a b (k + 1) = movedTo a b k) := Lib.hid (by rw [HMT.out, if_pos hsame, List.append_nil])
          have hb1 : (A != A2) = false := by simp [hsame.1]
          have hb2 : (H != H2') = false := by simp [hsame.2]
          have HSM := Lib.hid hsame; clear hsame
          go_wp2_with fail
          go_quiet ((go_at_call 74; exact Calls.quiet_of (l1Same_b true _ _ _ _ _ HDC.out ((HI1.out.ext ux).drewN _) ((HI2.out.ext ux).drewN _))))
          go_wp2_with fail
          go_quiet (fail)
          go_wp2
          go_roundw
          case rel => exact ⟨k + 1, by omega, by go_num, HJ2.out, by rw [HMT2.out]; exact HR.out.ext (ux.drewN _), hx.trans (ux.drewN _)⟩
          case measure => simp [intOf]; omega
        · by_cases hA : A = A2
          · have hH : ¬ H = H2' := fun e => hsame ⟨hA, e⟩
            have HMT2 : Hid (movedTo a b (k + 1) = movedTo a b k ++ [(k : Int)]) := Lib.hid (by rw [HMT.out, if_neg hsame])
            have hb1 : (A != A2) = false := by simp [hA]
            have hb2 : (H != H2') = true := by simp [hH]
            clear hA hH hsame
            go_wp2_with fail
            go_quiet ((go_at_call 74; exact Calls.quiet_of (l1Same_b true _ _ _ _ _ HDC.out ((HI1.out.ext ux).drewN _) ((HI2.out.ext ux).drewN _))))
            obtain ⟨n1, rfl⟩ : ∃ n : Nat, n = nq := ⟨_, rfl⟩
            go_wp2_with fail
            go_quiet (fail)
            have hz1 : ((wo.alloc (.cells #[.int .i64 A, .int .i64 H, .slice ar1 N cr1] 50)).drewN (n1 + nq)).heap.size = wo.heap.size + 1 := by simp
            obtain ⟨L, hL⟩ : ∃ L, movedTo a b k = L := ⟨_, rfl⟩
            rw [hL] at HR hml HMT2
            have hown := HR.out.ext ((ux.drewN (n1 + nq)).alloc (.cells #[.int .i64 k] 3))
            have HOWN := Lib.hid hown
            unfold IRow at hown
            have HOW2 := Lib.hid hown; clear hown
            have hs := hx.size
            clear hL
            go_wp2_with (at_builtin; go_loud (refine app1 _ rfl _ _ 24 3 rfl (.int .i64 0) 8 Try.underlying24 info_int rfl w.heap.size _ L.length _ rfl HOW2.out (wo.heap.size + 1) 1 3 (.int .i64 k) rfl (Box.new _ _ _ hz1.symm) rfl (by omega) (by omega) (by simp; omega) ?_))
            intro g cp w3 hown3 hgrow hat hlt3
            have hx3 := HOWN.out.grew (hx.trans ((ux.drewN _).alloc _)) (Nat.le_refl _) hgrow
            have HO3 := Lib.hid hown3; clear hown3
            have HX3 := Lib.hid hx3; clear hx3
            clear hgrow
            go_wp2
            go_roundw
            case rel => exact ⟨k + 1, by omega, by go_num, HJ2.out, by rw [HMT2.out]; exact IRow.push HO3.out, HX3.out⟩
            case measure => simp [intOf]; omega
          · have HMT2 : Hid (movedTo a b (k + 1) = movedTo a b k ++ [(k : Int)]) := Lib.hid (by rw [HMT.out, if_neg hsame])
            have hb1 : (A != A2) = true := by simp [hA]
            clear hA hsame
            go_wp2_with fail
            go_quiet ((go_at_call 74; exact Calls.quiet_of (l1Same_b true _ _ _ _ _ HDC.out ((HI1.out.ext ux).drewN _) ((HI2.out.ext ux).drewN _))))
            obtain ⟨n1, rfl⟩ : ∃ n : Nat, n = nq := ⟨_, rfl⟩
            go_wp2_with fail
            go_quiet (fail)
            have hz1 : ((wo.alloc (.cells #[.int .i64 A, .int .i64 H, .slice ar1 N cr1] 50)).drewN (n1 + nq)).heap.size = wo.heap.size + 1 := by simp
            obtain ⟨L, hL⟩ : ∃ L, movedTo a b k = L := ⟨_, rfl⟩
            rw [hL] at HR hml HMT2
            have hown := HR.out.ext ((ux.drewN (n1 + nq)).alloc (.cells #[.int .i64 k] 3))
            have HOWN := Lib.hid hown
            unfold IRow at hown
            have HOW2 := Lib.hid hown; clear hown
            have hs := hx.size
            clear hL
            go_wp2_with (at_builtin; go_loud (refine app1 _ rfl _ _ 24 3 rfl (.int .i64 0) 8 Try.underlying24 info_int rfl w.heap.size _ L.length _ rfl HOW2.out (wo.heap.size + 1) 1 3 (.int .i64 k) rfl (Box.new _ _ _ hz1.symm) rfl (by omega) (by omega) (by simp; omega) ?_))
            intro g cp w3 hown3 hgrow hat hlt3
            have hx3 := HOWN.out.grew (hx.trans ((ux.drewN _).alloc _)) (Nat.le_refl _) hgrow
            have HO3 := Lib.hid hown3; clear hown3
            have HX3 := Lib.hid hx3; clear hx3
            clear hgrow
            go_wp2
            go_roundw
            case rel => exact ⟨k + 1, by omega, by go_num, HJ2.out, by rw [HMT2.out]; exact IRow.push HO3.out, HX3.out⟩
            case measure => simp [intOf]; omega
      · have hdec : decide ((peAt a k).vals = (peAt b k).vals) = false := by simp [hv]
        have HDC := Lib.hid hdec
        obtain ⟨hB, hV⟩ := HF.out (fun h => hv (h.2 k hlt))
        subst hB hV
        clear hdec hv HF HMV
        go_wp2_with fail
        go_quiet ((go_at_call 74; exact Calls.quiet_of (l1Same_b false _ _ _ _ _ HDC.out ((HI1.out.ext ux).drewN _) ((HI2.out.ext ux).drewN _))))
        go_wp2
        go_ret2
        exact retInts_nil (hx.trans (ux.drewN _))
    · obtain ⟨hB, hV⟩ := HMV.out ⟨⟨HSP.out.1, HSP.out.2, HDP.out, HL.out⟩, fun j hj => HJ.out j (by omega)⟩
      have hkl : k = a.length := by omega
      have HKL := Lib.hid hkl; clear hkl
      have HVV := Lib.hid hV; clear hV
      subst hB
      clear HF HMV
      go_wp2
      go_ret2
      exact ⟨_, rfl, by rw [HVV.out, ← HKL.out]; exact HR.out.own (Nat.le_refl _), hx⟩
set_option maxRecDepth 100000 in
set_option maxHeartbeats 1600000 in
theorem implMovedRecords_c (v1 : Value) (s : List Vr) (v2 : Value) (a : List Pe) (v3 : Value) (b : List Pe) (w : World) (h1 : Vrs w v1 s) (h2 : Pes w v2 a) (h3 : Pes w v3 b) (hw : WfV s) :
    Calls Try.prog 38 #[v1, v2, v3] w (RetInts (fun v' => .tuple #[v', .bool (mvB s a b)]) w (mvV s a b)) := by
  have H1 := Lib.hid h1; clear h1
  have HW := Lib.hid hw; clear hw
  have H2 := Lib.hid h2
  have H3 := Lib.hid h3
  obtain ⟨aa, ca, rfl, e1, e2, g2⟩ := h2
  obtain ⟨ab, cb, rfl, e3, e4, g3⟩ := h3
  have G2 := Lib.hid g2; clear g2
  have G3 := Lib.hid g3; clear g3
  have HF : Hid (¬ MvP s a b → mvB s a b = false ∧ mvV s a b = []) := Lib.hid (fun h => by
    have := mvB_not h
    exact ⟨this, by simp [mvV, this]⟩)
  have HMV : Hid (MvP s a b → mvB s a b = true ∧ mvV s a b = movedTo a b a.length) := Lib.hid (fun h => by
    have := mvB_true.2 h
    exact ⟨this, by simp [mvV, this]⟩)
  obtain ⟨B, hB⟩ : ∃ B, mvB s a b = B := ⟨_, rfl⟩
  obtain ⟨V, hV⟩ : ∃ V, mvV s a b = V := ⟨_, rfl⟩
  rw [hB, hV] at HF HMV
  rw [hB, hV]
  clear hB hV
  cases hs : schB s
  · obtain ⟨hB, hV⟩ := HF.out (fun h => by have := schB_true.2 h.1.1; rw [hs] at this; cases this)
    subst hB hV
    have HS := Lib.hid hs; clear hs HF HMV
    go_enter Try.func38, Try.ntmps38
    go_wp2_with fail
    refine (IsSchema_b false _ s _ HS.out H1.out HW.out).mono ?_
    rintro e w1 ⟨rfl, u1⟩
    go_wp2
    go_ret2
    exact retInts_nil u1
  have HS := Lib.hid hs
  have HSP1 := Lib.hid (schB_true.1 hs)
  clear hs
  cases hq : datB s a
  · obtain ⟨hB, hV⟩ := HF.out (fun h => by have := datB_true.2 h.1.2.1; rw [hq] at this; cases this)
    subst hB hV
    have HQ := Lib.hid hq; clear hq HF HMV
    go_enter Try.func38, Try.ntmps38
    go_wp2_with fail
    refine (IsSchema_b true _ s _ HS.out H1.out HW.out).mono ?_
    rintro e w1 ⟨rfl, u1⟩
    go_wp2_with fail
    refine (isData_b false _ _ s a _ HQ.out (H1.out.ext u1) (H2.out.ext u1)).mono ?_
    rintro e w2 ⟨rfl, u2⟩
    go_wp2
    go_ret2
    exact retInts_nil (u1.trans u2)
  have HQ := Lib.hid hq
  have HSP : Hid (SchP s ∧ DatP s a) := Lib.hid ⟨HSP1.out, datB_true.1 hq⟩
  clear hq
  cases hd : datB s b
  · obtain ⟨hB, hV⟩ := HF.out (fun h => by have := datB_true.2 h.1.2.2.1; rw [hd] at this; cases this)
    subst hB hV
    have HD := Lib.hid hd; clear hd HF HMV
    go_enter Try.func38, Try.ntmps38
    go_wp2_with fail
    refine (IsSchema_b true _ s _ HS.out H1.out HW.out).mono ?_
    rintro e w1 ⟨rfl, u1⟩
    go_wp2_with fail
    refine (isData_b true _ _ s a _ HQ.out (H1.out.ext u1) (H2.out.ext u1)).mono ?_
    rintro e w2 ⟨rfl, u2⟩
    go_wp2_with fail
    refine (isData_b false _ _ s b _ HD.out (H1.out.ext (u1.trans u2)) (H3.out.ext (u1.trans u2))).mono ?_
    rintro e w3 ⟨rfl, u3⟩
    go_wp2
    go_ret2
    exact retInts_nil ((u1.trans u2).trans u3)
  have HD := Lib.hid hd
  have HDP := Lib.hid (datB_true.1 hd)
  clear hd
  by_cases hl : ¬ a.length = b.length
  · obtain ⟨hB, hV⟩ := HF.out (fun h => hl h.1.2.2.2)
    subst hB hV
    have hq : ((a.length : Int) != (b.length : Int)) = true := by simp; omega
    clear HF HMV hl
    go_enter Try.func38, Try.ntmps38
    go_wp2_with fail
    refine (IsSchema_b true _ s _ HS.out H1.out HW.out).mono ?_
    rintro e w1 ⟨rfl, u1⟩
    go_wp2_with fail
    refine (isData_b true _ _ s a _ HQ.out (H1.out.ext u1) (H2.out.ext u1)).mono ?_
    rintro e w2 ⟨rfl, u2⟩
    go_wp2_with fail
    refine (isData_b true _ _ s b _ HD.out (H1.out.ext (u1.trans u2)) (H3.out.ext (u1.trans u2))).mono ?_
    rintro e w3 ⟨rfl, u3⟩
    have u0 := (u1.trans u2).trans u3
    go_wp2
    go_ret2
    exact retInts_nil u0
  have hl2 : a.length = b.length := Classical.byContradiction hl
  clear hl
  have hq : ((a.length : Int) != (b.length : Int)) = false := by simp [hl2]
  have HL := Lib.hid hl2; clear hl2
  have h40 : a.length ≤ 40 := HSP.out.2.1
  go_enter Try.func38, Try.ntmps38
  go_wp2_with fail
  refine (IsSchema_b true _ s _ HS.out H1.out HW.out).mono ?_
  rintro e w1 ⟨rfl, u1⟩
  go_wp2_with fail
  refine (isData_b true _ _ s a _ HQ.out (H1.out.ext u1) (H2.out.ext u1)).mono ?_
  rintro e w2 ⟨rfl, u2⟩
  go_wp2_with fail
  refine (isData_b true _ _ s b _ HD.out (H1.out.ext (u1.trans u2)) (H3.out.ext (u1.trans u2))).mono ?_
  rintro e w3 ⟨rfl, u3⟩
  have u0 := (u1.trans u2).trans u3
  obtain ⟨wz, hwz⟩ : ∃ wz : World, w3 = wz := ⟨_, rfl⟩
  subst hwz
  go_wp2
  go_loopw [8, 35] (fun r i wr => ∃ k : Nat, k ≤ a.length ∧ i = .int .i64 k ∧ (∀ j, j < k → (peAt a j).vals = (peAt b j).vals) ∧ IRow w.heap.size wr r (movedTo a b k) ∧ Ext w wr) (fun _ i _ => a.length - (intOf i).toNat)
  case atStart => exact ⟨0, Nat.zero_le _, rfl, (fun j hj => by omega), IRow.nil, u0⟩
  case round =>
    obtain ⟨k, hk, rfl, hj, hr, hx⟩ := hrel
    obtain ⟨wo, rfl⟩ : ∃ wo : World, wo = wr := ⟨_, rfl⟩
    have HJ := Lib.hid hj; clear hj
    have HR := Lib.hid hr; clear hr
    by_cases hlt : k < a.length
    · have hltb : k < b.length := by rw [← HL.out]; exact hlt
      obtain ⟨b1, o1, ar1, cr1, rfl, hc0, hc1, hc2, p1, p2, p3⟩ := (G2.out.ext hx).at_ hlt
      obtain ⟨b2, o2, ar2, cr2, rfl, hd0', hd1', hd2', q1, q2, q3⟩ := (G3.out.ext hx).at_ hltb
      have HI1 : Hid (Ints wo (.slice ar1 (peAt a k).vals.length cr1) (peAt a k).vals) := Lib.hid ⟨ar1, cr1, rfl, p1, p2, p3⟩
      have HI2 : Hid (Ints wo (.slice ar2 (peAt b k).vals.length cr2) (peAt b k).vals) := Lib.hid ⟨ar2, cr2, rfl, q1, q2, q3⟩
      clear p3 q3
      have HMT : Hid (movedTo a b (k + 1) = movedTo a b k ++ (if (peAt a k).area = (peAt b k).area ∧ (peAt a k).house = (peAt b k).house then [] else [(k : Int)])) := Lib.hid rfl
      have hml := movedTo_len a b k
      obtain ⟨A, hA⟩ : ∃ A, (peAt a k).area = A := ⟨_, rfl⟩
      obtain ⟨H, hH⟩ : ∃ H, (peAt a k).house = H := ⟨_, rfl⟩
      obtain ⟨A2, hA2⟩ : ∃ A, (peAt b k).area = A := ⟨_, rfl⟩
      obtain ⟨H2', hH2⟩ : ∃ H, (peAt b k).house = H := ⟨_, rfl⟩
      rw [hA] at hc0 HMT
      rw [hH] at hc1 HMT
      rw [hA2] at hd0' HMT
      rw [hH2] at hd1' HMT
      clear hA hH hA2 hH2
      obtain ⟨N, hN⟩ : ∃ N, (peAt a k).vals.length = N := ⟨_, rfl⟩
      obtain ⟨N2, hN2⟩ : ∃ N, (peAt b k).vals.length = N := ⟨_, rfl⟩
      rw [hN] at hc2 HI1 p1
      rw [hN2] at hd2' HI2 q1
      clear hN hN2
      have ux := (Ext.refl wo).alloc (.cells #[.int .i64 A, .int .i64 H, .slice ar1 N cr1] 50)
      have bx := Box.new wo 50 #[.int .i64 A, .int .i64 H, .slice ar1 N cr1] rfl
      have k0 := bx.cell 0 (by simp)
      have k1 := bx.cell 1 (by simp)
      have k2 := bx.cell 2 (by simp)
      have hd0 := Ext.cell ux hd0'
      have hd1 := Ext.cell ux hd1'
      have hd2 := Ext.cell ux hd2'
      clear hd0' hd1' hd2'
      have hk0 : (0 : Int) ≤ (k : Int) := by omega
      have hk1 : (k : Int) < (b.length : Int) := by omega
      by_cases hv : (peAt a k).vals = (peAt b k).vals
      · have hdec : decide ((peAt a k).vals = (peAt b k).vals) = true := by simp [hv]
        have HJ2 : Hid (∀ j, j < k + 1 → (peAt a j).vals = (peAt b j).vals) := Lib.hid (fun j hj => by
          by_cases e : j = k
          · subst e; exact hv
          · exact HJ.out j (by omega))
        have HDC := Lib.hid hdec; clear hdec hv
        by_cases hsame : A = A2 ∧ H = H2'
        · have HMT2 : Hid (movedTo a b (k + 1) = movedTo a b k) := Lib.hid (by rw [HMT.out, if_pos hsame, List.append_nil])
          have hb1 : (A != A2) = false := by simp [hsame.1]
          have hb2 : (H != H2') = false := by simp [hsame.2]
          have HSM := Lib.hid hsame; clear hsame
          go_wp2_with fail
          go_quiet ((go_at_call 75; exact Calls.quiet_of (equalI_b true _ _ _ _ _ HDC.out ((HI1.out.ext ux).drewN _) ((HI2.out.ext ux).drewN _))))
          go_wp2_with fail
          go_quiet (fail)
          go_wp2
          go_roundw
          case rel => exact ⟨k + 1, by omega, by go_num, HJ2.out, by rw [HMT2.out]; exact HR.out.ext (ux.drewN _), hx.trans (ux.drewN _)⟩
          case measure => simp [intOf]; omega
        · by_cases hA : A = A2
          · have hH : ¬ H = H2' := fun e => hsame ⟨hA, e⟩
            have HMT2 : Hid (movedTo a b (k + 1) = movedTo a b k ++ [(k : Int)]) := Lib.hid (by rw [HMT.out, if_neg hsame])
            have hb1 : (A != A2) = false := by simp [hA]
            have hb2 : (H != H2') = true := by simp [hH]
            clear hA hH hsame
            go_wp2_with fail
            go_quiet ((go_at_call 75; exact Calls.quiet_of (equalI_b true _ _ _ _ _ HDC.out ((HI1.out.ext ux).drewN _) ((HI2.out.ext ux).drewN _))))
            obtain ⟨n1, rfl⟩ : ∃ n : Nat, n = nq := ⟨_, rfl⟩
            go_wp2_with fail
            go_quiet (fail)
            have hz1 : ((wo.alloc (.cells #[.int .i64 A, .int .i64 H, .slice ar1 N cr1] 50)).drewN (n1 + nq)).heap.size = wo.heap.size + 1 := by simp
            obtain ⟨L, hL⟩ : ∃ L, movedTo a b k = L := ⟨_, rfl⟩
            rw [hL] at HR hml HMT2
            have hown := HR.out.ext ((ux.drewN (n1 + nq)).alloc (.cells #[.int .i64 k] 3))
            have HOWN := Lib.hid hown
            unfold IRow at hown
            have HOW2 := Lib.hid hown; clear hown
            have hs := hx.size
            clear hL
            go_wp2_with (at_builtin; go_loud (refine app1 _ rfl _ _ 24 3 rfl (.int .i64 0) 8 Try.underlying24 info_int rfl w.heap.size _ L.length _ rfl HOW2.out (wo.heap.size + 1) 1 3 (.int .i64 k) rfl (Box.new _ _ _ hz1.symm) rfl (by omega) (by omega) (by simp; omega) ?_))
            intro g cp w3 hown3 hgrow hat hlt3
            have hx3 := HOWN.out.grew (hx.trans ((ux.drewN _).alloc _)) (Nat.le_refl _) hgrow
            have HO3 := Lib.hid hown3; clear hown3
            have HX3 := Lib.hid hx3; clear hx3
            clear hgrow
            go_wp2
            go_roundw
            case rel => exact ⟨k + 1, by omega, by go_num, HJ2.out, by rw [HMT2.out]; exact IRow.push HO3.out, HX3.out⟩
            case measure => simp [intOf]; omega
          · have HMT2 : Hid (movedTo a b (k + 1) = movedTo a b k ++ [(k : Int)]) := Lib.hid (by rw [HMT.out, if_neg hsame])
            have hb1 : (A != A2) = true := by simp [hA]
            clear hA hsame
            go_wp2_with fail
            go_quiet ((go_at_call 75; exact Calls.quiet_of (equalI_b true _ _ _ _ _ HDC.out ((HI1.out.ext ux).drewN _) ((HI2.out.ext ux).drewN _))))
            obtain ⟨n1, rfl⟩ : ∃ n : Nat, n = nq := ⟨_, rfl⟩
            go_wp2_with fail
            go_quiet (fail)
            have hz1 : ((wo.alloc (.cells #[.int .i64 A, .int .i64 H, .slice ar1 N cr1] 50)).drewN (n1 + nq)).heap.size = wo.heap.size + 1 := by simp
            obtain ⟨L, hL⟩ : ∃ L, movedTo a b k = L := ⟨_, rfl⟩
            rw [hL] at HR hml HMT2
            have hown := HR.out.ext ((ux.drewN (n1 + nq)).alloc (.cells #[.int .i64 k] 3))
            have HOWN := Lib.hid hown
            unfold IRow at hown
            have HOW2 := Lib.hid hown; clear hown
            have hs := hx.size
            clear hL
            go_wp2_with (at_builtin; go_loud (refine app1 _ rfl _ _ 24 3 rfl (.int .i64 0) 8 Try.underlying24 info_int rfl w.heap.size _ L.length _ rfl HOW2.out (wo.heap.size + 1) 1 3 (.int .i64 k) rfl (Box.new _ _ _ hz1.symm) rfl (by omega) (by omega) (by simp; omega) ?_))
            intro g cp w3 hown3 hgrow hat hlt3
            have hx3 := HOWN.out.grew (hx.trans ((ux.drewN _).alloc _)) (Nat.le_refl _) hgrow
            have HO3 := Lib.hid hown3; clear hown3
            have HX3 := Lib.hid hx3; clear hx3
            clear hgrow
            go_wp2
            go_roundw
            case rel => exact ⟨k + 1, by omega, by go_num, HJ2.out, by rw [HMT2.out]; exact IRow.push HO3.out, HX3.out⟩
            case measure => simp [intOf]; omega
      · have hdec : decide ((peAt a k).vals = (peAt b k).vals) = false := by simp [hv]
        have HDC := Lib.hid hdec
        obtain ⟨hB, hV⟩ := HF.out (fun h => hv (h.2 k hlt))
        subst hB hV
        clear hdec hv HF HMV
        go_wp2_with fail
        go_quiet ((go_at_call 75; exact Calls.quiet_of (equalI_b false _ _ _ _ _ HDC.out ((HI1.out.ext ux).drewN _) ((HI2.out.ext ux).drewN _))))
        go_wp2
        go_ret2
        exact retInts_nil (hx.trans (ux.drewN _))
    · obtain ⟨hB, hV⟩ := HMV.out ⟨⟨HSP.out.1, HSP.out.2, HDP.out, HL.out⟩, fun j hj => HJ.out j (by omega)⟩
      have hkl : k = a.length := by omega
      have HKL := Lib.hid hkl; clear hkl
      have HVV := Lib.hid hV; clear hV
      subst hB
      clear HF HMV
      go_wp2
      go_ret2
      exact ⟨_, rfl, by rw [HVV.out, ← HKL.out]; exact HR.out.own (Nat.le_refl _), hx⟩
end Go.Proofs.Ytkkoidoinbiikaa

