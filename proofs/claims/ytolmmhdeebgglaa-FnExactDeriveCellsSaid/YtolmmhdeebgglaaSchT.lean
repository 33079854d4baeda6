/- Whether variables are a schema: the spec's and the program's checks. -/
import Derived.Test.YtolmmhdeebgglaaVrB
import Derived.Test.YtolmmhdeebgglaaRise
import Derived.Test.YtolmmhdeebgglaaGrid
import Derived.Laws.StructEq
namespace Go.Proofs.Ytolmmhdeebgglaa
open Go.RowKit

/-- a word of 1 to 8 letters a to z -/
def LettP (nm : ByteArray) (i : Nat) : Prop := ∀ h : i < nm.size, 97 ≤ nm[i].toNat ∧ nm[i].toNat ≤ 122
def WordP (nm : ByteArray) : Prop := 1 ≤ nm.size ∧ nm.size ≤ 8 ∧ ∀ i, i < nm.size → LettP nm i
open Classical in
noncomputable def wordB (nm : ByteArray) : Bool := decide (WordP nm)
theorem wordB_true {nm : ByteArray} : wordB nm = true ↔ WordP nm := by simp [wordB]
theorem wordB_not {nm : ByteArray} (h : ¬ WordP nm) : wordB nm = false := by simp [wordB, h]

set_option maxHeartbeats 400000 in
theorem sName_b (b : Bool) (nm : ByteArray) (w : World) (hb : wordB nm = b) (hn : nm.size ≤ 9223372036854775807) :
    Calls Try.prog 98 #[.string nm] w fun e w' => e = .returned (.bool b) ∧ w' = w := by
  subst hb
  have hn' : (nm.size : Int) ≤ 9223372036854775807 := by omega
  go_enter Try.func98, Try.ntmps98
  go_wp2
  go_loop [3] (fun i => ∃ k : Nat, k ≤ nm.size ∧ i = .int .i64 k ∧ ∀ i, i < k → LettP nm i) (fun i => nm.size - (intOf i).toNat)
  case atStart => exact ⟨0, Nat.zero_le _, rfl, fun j hj => by omega⟩
  case round =>
    obtain ⟨k, hk, rfl, hj⟩ := hrel
    have HJ := Lib.hid hj; clear hj
    by_cases hlt : k < nm.size
    · by_cases h1 : nm[k].toNat < 97
      · have HB : Hid (wordB nm = false) := Lib.hid (wordB_not (fun h => by have := h.2.2 k hlt hlt; omega))
        go_wp2
        go_ret
        exact ⟨ret_bool HB.out.symm, rfl⟩
      · by_cases h2 : 122 < nm[k].toNat
        · have HB : Hid (wordB nm = false) := Lib.hid (wordB_not (fun h => by have := h.2.2 k hlt hlt; omega))
          go_wp2
          go_ret
          exact ⟨ret_bool HB.out.symm, rfl⟩
        · have HJ2 : Hid (∀ i, i < k + 1 → LettP nm i) := Lib.hid (fun i hi => by
            by_cases e : i = k
            · subst e; exact fun _ => ⟨by omega, by omega⟩
            · exact HJ.out i (by omega))
          go_wp2
          go_round
          case rel => exact ⟨k + 1, by omega, by go_num, HJ2.out⟩
          case measure => simp [intOf]; omega
    · by_cases hs : 1 ≤ nm.size ∧ nm.size ≤ 8
      · have hd : (decide ((1 : Int) ≤ (nm.size : Int)) && decide ((nm.size : Int) ≤ 8)) = true := by simp; omega
        have HD := Lib.hid hd; clear hd
        have HB : Hid (wordB nm = true) := Lib.hid (wordB_true.2 ⟨hs.1, hs.2, fun i hi => HJ.out i (by omega)⟩)
        go_wp2_with (go_at_call 80; refine (l1In_b true (nm.size : Int) 1 8 _ HD.out).mono ?_; rintro e w' ⟨rfl, rfl⟩)
        go_ret
        exact ⟨ret_bool HB.out.symm, rfl⟩
      · have hd : (decide ((1 : Int) ≤ (nm.size : Int)) && decide ((nm.size : Int) ≤ 8)) = false := by
          apply Bool.eq_false_iff.2; intro e; simp at e; omega
        have HD := Lib.hid hd; clear hd
        have HB : Hid (wordB nm = false) := Lib.hid (wordB_not (fun h => hs ⟨h.1, h.2.1⟩))
        go_wp2_with (go_at_call 80; refine (l1In_b false (nm.size : Int) 1 8 _ HD.out).mono ?_; rintro e w' ⟨rfl, rfl⟩)
        go_ret
        exact ⟨ret_bool HB.out.symm, rfl⟩
set_option maxHeartbeats 400000 in
theorem isWord_b (b : Bool) (nm : ByteArray) (w : World) (hb : wordB nm = b) (hn : nm.size ≤ 9223372036854775807) :
    Calls Try.prog 95 #[.string nm] w fun e w' => e = .returned (.bool b) ∧ w' = w := by
  subst hb
  have hn' : (nm.size : Int) ≤ 9223372036854775807 := by omega
  by_cases hs1 : nm.size < 1
  · have HB : Hid (wordB nm = false) := Lib.hid (wordB_not (fun h => by have := h.1; omega))
    go_enter Try.func95, Try.ntmps95
    go_wp2
    go_ret
    exact ⟨ret_bool HB.out.symm, rfl⟩
  by_cases hs8 : 8 < nm.size
  · have HB : Hid (wordB nm = false) := Lib.hid (wordB_not (fun h => by have := h.2.1; omega))
    go_enter Try.func95, Try.ntmps95
    go_wp2
    go_ret
    exact ⟨ret_bool HB.out.symm, rfl⟩
  go_enter Try.func95, Try.ntmps95
  go_wp2
  go_loop [14] (fun i => ∃ k : Nat, k ≤ nm.size ∧ i = .int .i64 k ∧ ∀ i, i < k → LettP nm i) (fun i => nm.size - (intOf i).toNat)
  case atStart => exact ⟨0, Nat.zero_le _, rfl, fun j hj => by omega⟩
  case round =>
    obtain ⟨k, hk, rfl, hj⟩ := hrel
    have HJ := Lib.hid hj; clear hj
    by_cases hlt : k < nm.size
    · by_cases h1 : nm[k].toNat < 97
      · have HB : Hid (wordB nm = false) := Lib.hid (wordB_not (fun h => by have := h.2.2 k hlt hlt; omega))
        go_wp2
        go_ret
        exact ⟨ret_bool HB.out.symm, rfl⟩
      · by_cases h2 : 122 < nm[k].toNat
        · have HB : Hid (wordB nm = false) := Lib.hid (wordB_not (fun h => by have := h.2.2 k hlt hlt; omega))
          go_wp2
          go_ret
          exact ⟨ret_bool HB.out.symm, rfl⟩
        · have HJ2 : Hid (∀ i, i < k + 1 → LettP nm i) := Lib.hid (fun i hi => by
            by_cases e : i = k
            · subst e; exact fun _ => ⟨by omega, by omega⟩
            · exact HJ.out i (by omega))
          go_wp2
          go_round
          case rel => exact ⟨k + 1, by omega, by go_num, HJ2.out⟩
          case measure => simp [intOf]; omega
    · have HB : Hid (wordB nm = true) := Lib.hid (wordB_true.2 ⟨by omega, by omega, fun i hi => HJ.out i (by omega)⟩)
      go_wp2
      go_ret
      exact ⟨ret_bool HB.out.symm, rfl⟩

/-- the k-th variable is right: a word that was not met before, 2 to 8 levels -/
def VarP (s : List Vr) (k : Nat) : Prop := WordP (vrAt s k).name ∧ (2 ≤ (vrAt s k).lev ∧ (vrAt s k).lev ≤ 8) ∧ ∀ j, j < k → (vrAt s j).name ≠ (vrAt s k).name
def SchP (s : List Vr) : Prop := (1 ≤ s.length ∧ s.length ≤ 6) ∧ ∀ k, k < s.length → VarP s k
open Classical in
noncomputable def schB (s : List Vr) : Bool := decide (SchP s)
theorem schB_true {s : List Vr} : schB s = true ↔ SchP s := by simp [schB]
theorem schB_not {s : List Vr} {k : Nat} (hk : k < s.length) (h : ¬ VarP s k) : schB s = false := by
  have : ¬ SchP s := fun x => h (x.2 k hk)
  simp [schB, this]
theorem schB_len {s : List Vr} (h : ¬ (1 ≤ s.length ∧ s.length ≤ 6)) : schB s = false := by
  have : ¬ SchP s := fun x => h x.1
  simp [schB, this]
open Classical in
noncomputable def foundB (s : List Vr) (nm : ByteArray) : Bool := decide (∃ j, j < s.length ∧ (vrAt s j).name = nm)
theorem str_ne {a b : ByteArray} (h : ¬ a = b) : (a.toList == b.toList) = false := by
  apply Bool.eq_false_iff.2
  intro e
  apply h
  have e2 : a.toList = b.toList := by simpa using e
  rw [ByteArray.toList_eq, ByteArray.toList_eq] at e2
  obtain ⟨⟨x⟩⟩ := a
  obtain ⟨⟨y⟩⟩ := b
  simp only at e2
  rw [e2]
theorem vrAt_take {s : List Vr} {k j : Nat} (h : j < k) : vrAt (s.take k) j = vrAt s j := by simp [vrAt, List.getD, h]
theorem VrsA.take {w : World} {ao : Option Addr} {s : List Vr} (h : VrsA w ao s) {k : Nat} (hk : k ≤ s.length) : VrsA w ao (s.take k) := by
  intro i hi
  have hl : (s.take k).length = k := by simp; omega
  rw [hl] at hi
  obtain ⟨b, o, rfl, hc⟩ := h i (by omega)
  refine ⟨b, o, rfl, ?_⟩
  rw [hc]
  simp only [vrCell]
  rw [vrAt_take (by omega)]

set_option maxHeartbeats 400000 in
theorem sFind_c (v : Value) (s : List Vr) (nm : ByteArray) (w : World) (h : Vrs w v s) :
    Calls Try.prog 99 #[v, .string nm] w fun e w' => (∃ r : Int, e = .returned (.int .i64 r) ∧ -1 ≤ r ∧ r ≤ 9223372036854775807 ∧ decide (0 ≤ r) = foundB s nm) ∧ Ext w w' := by
  obtain ⟨ao, cap, rfl, h1, h2, h3⟩ := h
  have G := Lib.hid h3; clear h3
  go_enter Try.func99, Try.ntmps99
  go_wp2
  go_loopw [9] (fun i wr => ∃ k : Nat, k ≤ s.length ∧ i = .int .i64 k ∧ (∀ j, j < k → (vrAt s j).name ≠ nm) ∧ Ext w wr) (fun i _ => s.length - (intOf i).toNat)
  case atStart => exact ⟨0, Nat.zero_le _, rfl, (fun j hj => by omega), Ext.refl w⟩
  case round =>
    obtain ⟨k, hk, rfl, hj, hx⟩ := hrel
    have HJ := Lib.hid hj; clear hj
    by_cases hlt : k < s.length
    · obtain ⟨b, o, rfl, hc0, hc1⟩ := (G.out.ext hx).at_ hlt
      by_cases he : (vrAt s k).name = nm
      · have HF : Hid (foundB s nm = true) := Lib.hid (by unfold foundB; exact decide_eq_true ⟨k, hlt, he⟩)
        go_wp2
        go_ret
        exact ⟨⟨k, rfl, by omega, by omega, by rw [HF.out]; simp⟩, hx.alloc _⟩
      · have hq := str_ne he
        have HJ2 : Hid (∀ j, j < k + 1 → (vrAt s j).name ≠ nm) := Lib.hid (fun j hj => by
          by_cases e : j = k
          · subst e; exact he
          · exact HJ.out j (by omega))
        go_wp2
        go_roundw
        case rel => exact ⟨k + 1, by omega, by go_num, HJ2.out, hx.alloc _⟩
        case measure => simp [intOf]; omega
    · have HF : Hid (foundB s nm = false) := Lib.hid (by
        unfold foundB
        exact decide_eq_false (fun ⟨j, hj, e⟩ => HJ.out j (by omega) e))
      go_wp2
      go_ret
      exact ⟨⟨-1, rfl, by omega, by omega, by rw [HF.out]; rfl⟩, hx⟩
set_option maxRecDepth 100000 in
set_option maxHeartbeats 1600000 in
theorem sGood_b (b : Bool) (v : Value) (s : List Vr) (w : World) (hb : schB s = b) (h : Vrs w v s) (hw : WfV s) :
    Calls Try.prog 77 #[v] w fun e w' => e = .returned (.bool b) ∧ Ext w w' := by
  subst hb
  obtain ⟨ao, cap, rfl, h1, h2, h3⟩ := h
  have G := Lib.hid h3; clear h3
  have HW : Hid (∀ k, k < s.length → (vrAt s k).name.size ≤ 9223372036854775807) := Lib.hid (fun k hk => (hw _ (vrAt_mem hk)).2)
  clear hw
  by_cases hs : 1 ≤ s.length ∧ s.length ≤ 6
  · have hd : (decide ((1 : Int) ≤ (s.length : Int)) && decide ((s.length : Int) ≤ 6)) = true := by simp; omega
    have HD := Lib.hid hd; clear hd
    go_enter Try.func77, Try.ntmps77
    go_wp2_with fail
    refine (l1In_b true (s.length : Int) 1 6 _ HD.out).mono ?_
    rintro e w' ⟨rfl, rfl⟩
    go_wp2
    go_loopw [11] (fun i wr => ∃ k : Nat, k ≤ s.length ∧ i = .int .i64 k ∧ (∀ j, j < k → VarP s j) ∧ Ext w' wr) (fun i _ => s.length - (intOf i).toNat)
    case atStart => exact ⟨0, Nat.zero_le _, rfl, (fun j hj => by omega), Ext.refl w'⟩
    case round =>
      obtain ⟨k, hk, rfl, hj, hx⟩ := hrel
      obtain ⟨wo, rfl⟩ : ∃ wo : World, wo = wr := ⟨_, rfl⟩
      have HJ := Lib.hid hj; clear hj
      by_cases hlt : k < s.length
      · have hkc : k ≤ cap := by omega
        obtain ⟨b, o, rfl, hc0, hc1⟩ := (G.out.ext hx).at_ hlt
        have HN := Lib.hid (HW.out k hlt)
        have HTK : Hid (∀ x, Ext wo x → Vrs x (.slice (some ⟨b, o, none⟩) k cap) (s.take k)) := Lib.hid (fun x u => ⟨_, cap, by simp; omega, by simp; omega, h2, (G.out.ext (hx.trans u)).take hk⟩)
        have HV : Hid (¬ VarP s k → schB s = false) := Lib.hid (fun h => schB_not hlt h)
        have HVP : Hid (VarP s k ↔ WordP (vrAt s k).name ∧ (2 ≤ (vrAt s k).lev ∧ (vrAt s k).lev ≤ 8) ∧ foundB (s.take k) (vrAt s k).name = false) := Lib.hid (by
          unfold VarP foundB
          refine and_congr_right (fun _ => and_congr_right (fun _ => ?_))
          rw [decide_eq_false_iff_not]
          constructor
          · rintro h ⟨j, hj, e⟩
            have hj' : j < k := by simp at hj; omega
            rw [vrAt_take hj'] at e
            exact h j hj' e
          · intro h j hj e
            exact h ⟨j, by simp; omega, by rw [vrAt_take hj]; exact e⟩)
        obtain ⟨nm, hnm⟩ : ∃ nm, (vrAt s k).name = nm := ⟨_, rfl⟩
        obtain ⟨lv, hlv⟩ : ∃ lv, (vrAt s k).lev = lv := ⟨_, rfl⟩
        rw [hnm] at hc0 HVP HN
        rw [hlv] at hc1 HVP
        clear hnm hlv
        have bx := Box.new wo 67 #[.string nm, .int .i64 lv] rfl
        have ux := (Ext.refl wo).alloc (.cells #[.string nm, .int .i64 lv] 67)
        have c0 := bx.cell 0 (by simp)
        have c1 := bx.cell 1 (by simp)
        cases hwd : wordB nm
        · have HWD := Lib.hid hwd
          have HB : Hid (schB s = false) := Lib.hid (HV.out (fun h => by
            have h1 := wordB_true.2 (HVP.out.1 h).1
            rw [hwd] at h1; cases h1))
          clear hwd
          go_wp2_with fail
          go_quiet ((go_at_call 98; exact Calls.quiet_of_same (sName_b false nm _ HWD.out HN.out)))
          go_wp2
          go_ret
          exact ⟨ret_bool HB.out.symm, (hx.alloc _).drewN _⟩
        by_cases hlv : 2 ≤ lv ∧ lv ≤ 8
        · have hd : (decide ((2 : Int) ≤ lv) && decide (lv ≤ 8)) = true := by simp; omega
          have HD := Lib.hid hd; clear hd
          have HWD := Lib.hid hwd
          cases hf : foundB (s.take k) nm
          · have HF := Lib.hid hf
            have HJ2 : Hid (∀ j, j < k + 1 → VarP s j) := Lib.hid (fun j hj => by
              by_cases e : j = k
              · subst e; exact HVP.out.2 ⟨wordB_true.1 hwd, hlv, hf⟩
              · exact HJ.out j (by omega))
            clear hwd hf hlv
            go_wp2_with fail
            go_region_held3 (fun x => x.cell? ⟨wo.heap.size, 0, none⟩ = some (.string nm) ∧ x.cell? ⟨wo.heap.size, 1, none⟩ = some (.int .i64 lv))
              (first | exact ⟨Ext.cell u1 c0, Ext.cell u1 c1⟩ | go_keep)
              ((first
                | (go_at_call 99; refine (sFind_c _ (s.take k) nm _ (HTK.out _ (Ext.drew ux))).mono ?_; rintro e w1 ⟨⟨r, rfl, r1, r2, r3⟩, u1⟩; rw [HF.out] at r3)
                | (go_at_call 80; refine (l1In_b true lv 2 8 _ HD.out).mono ?_; rintro e w2 ⟨rfl, rfl⟩)
                | (go_at_call 98; refine (sName_b true nm _ HWD.out HN.out).mono ?_; rintro e w3 ⟨rfl, rfl⟩)))
            go_wp2
            go_roundw
            case rel => exact ⟨k + 1, by omega, by go_num, HJ2.out, ((hx.alloc _).drew).trans u1⟩
            case measure => simp [intOf]; omega
          · have HF := Lib.hid hf
            have HB : Hid (schB s = false) := Lib.hid (HV.out (fun h => by
              have h1 := (HVP.out.1 h).2.2
              rw [hf] at h1; cases h1))
            clear hwd hf hlv
            go_wp2_with fail
            go_region_held3 (fun x => x.cell? ⟨wo.heap.size, 0, none⟩ = some (.string nm) ∧ x.cell? ⟨wo.heap.size, 1, none⟩ = some (.int .i64 lv))
              (first | exact ⟨Ext.cell u1 c0, Ext.cell u1 c1⟩ | go_keep)
              ((first
                | (go_at_call 99; refine (sFind_c _ (s.take k) nm _ (HTK.out _ (Ext.drew ux))).mono ?_; rintro e w1 ⟨⟨r, rfl, r1, r2, r3⟩, u1⟩; rw [HF.out] at r3)
                | (go_at_call 80; refine (l1In_b true lv 2 8 _ HD.out).mono ?_; rintro e w2 ⟨rfl, rfl⟩)
                | (go_at_call 98; refine (sName_b true nm _ HWD.out HN.out).mono ?_; rintro e w3 ⟨rfl, rfl⟩)))
            go_wp2
            go_ret
            exact ⟨ret_bool HB.out.symm, ((hx.alloc _).drew).trans u1⟩
        · have hd : (decide ((2 : Int) ≤ lv) && decide (lv ≤ 8)) = false := by
            apply Bool.eq_false_iff.2; intro e; simp at e; omega
          have HD := Lib.hid hd; clear hd
          have HWD := Lib.hid hwd
          have HB : Hid (schB s = false) := Lib.hid (HV.out (fun h => hlv (HVP.out.1 h).2.1))
          clear hwd hlv
          go_wp2_with fail
          go_quiet ((first
            | (go_at_call 80; exact Calls.quiet_of_same (l1In_b false lv 2 8 _ HD.out))
            | (go_at_call 98; exact Calls.quiet_of_same (sName_b true nm _ HWD.out HN.out))))
          go_wp2
          go_ret
          exact ⟨ret_bool HB.out.symm, (hx.alloc _).drewN _⟩
      · have HB : Hid (schB s = true) := Lib.hid (schB_true.2 ⟨hs, fun j hj => HJ.out j (by omega)⟩)
        go_wp2
        go_ret
        exact ⟨ret_bool HB.out.symm, hx⟩
  · have hd : (decide ((1 : Int) ≤ (s.length : Int)) && decide ((s.length : Int) ≤ 6)) = false := by
      apply Bool.eq_false_iff.2; intro e; simp at e; omega
    have HD := Lib.hid hd; clear hd
    have HB := Lib.hid (schB_len hs)
    go_enter Try.func77, Try.ntmps77
    go_wp2_with fail
    refine (l1In_b false (s.length : Int) 1 6 _ HD.out).mono ?_
    rintro e w' ⟨rfl, rfl⟩
    go_wp2
    go_ret
    exact ⟨ret_bool HB.out.symm, Ext.refl _⟩
set_option maxRecDepth 100000 in
set_option maxHeartbeats 1600000 in
theorem IsSchema_b (b : Bool) (v : Value) (s : List Vr) (w : World) (hb : schB s = b) (h : Vrs w v s) (hw : WfV s) :
    Calls Try.prog 71 #[v] w fun e w' => e = .returned (.bool b) ∧ Ext w w' := by
  subst hb
  obtain ⟨ao, cap, rfl, h1, h2, h3⟩ := h
  have G := Lib.hid h3; clear h3
  have HW : Hid (∀ k, k < s.length → (vrAt s k).name.size ≤ 9223372036854775807) := Lib.hid (fun k hk => (hw _ (vrAt_mem hk)).2)
  clear hw
  by_cases hs1 : s.length < 1
  · have HB := Lib.hid (schB_len (s := s) (by omega))
    go_enter Try.func71, Try.ntmps71
    go_wp2
    go_ret
    exact ⟨ret_bool HB.out.symm, Ext.refl _⟩
  by_cases hs6 : 6 < s.length
  · have HB := Lib.hid (schB_len (s := s) (by omega))
    go_enter Try.func71, Try.ntmps71
    go_wp2
    go_ret
    exact ⟨ret_bool HB.out.symm, Ext.refl _⟩
  go_enter Try.func71, Try.ntmps71
  go_wp2
  go_loopw [17] (fun i wr => ∃ k : Nat, k ≤ s.length ∧ i = .int .i64 k ∧ (∀ j, j < k → VarP s j) ∧ Ext w wr) (fun i _ => s.length - (intOf i).toNat)
  case atStart => exact ⟨0, Nat.zero_le _, rfl, (fun j hj => by omega), Ext.refl w⟩
  case round =>
    obtain ⟨k, hk, rfl, hj, hx⟩ := hrel
    obtain ⟨wo, rfl⟩ : ∃ wo : World, wo = wr := ⟨_, rfl⟩
    have HJ := Lib.hid hj; clear hj
    by_cases hlt : k < s.length
    · have hkc : k ≤ cap := by omega
      obtain ⟨b, o, rfl, hc0, hc1⟩ := (G.out.ext hx).at_ hlt
      have HN := Lib.hid (HW.out k hlt)
      have HV : Hid (¬ VarP s k → schB s = false) := Lib.hid (fun h => schB_not hlt h)
      obtain ⟨nm, hnm⟩ : ∃ nm, (vrAt s k).name = nm := ⟨_, rfl⟩
      obtain ⟨lv, hlv⟩ : ∃ lv, (vrAt s k).lev = lv := ⟨_, rfl⟩
      rw [hnm] at hc0 HN
      rw [hlv] at hc1
      have HNM := Lib.hid hnm; clear hnm
      have HLV := Lib.hid hlv; clear hlv
      have bx := Box.new wo 67 #[.string nm, .int .i64 lv] rfl
      have c0 := bx.cell 0 (by simp)
      have c1 := bx.cell 1 (by simp)
      cases hwd : wordB nm
      · have HWD := Lib.hid hwd
        have HB : Hid (schB s = false) := Lib.hid (HV.out (fun h => by
          have h1 := wordB_true.2 h.1
          rw [HNM.out, hwd] at h1; cases h1))
        clear hwd
        go_wp2_with fail
        refine (isWord_b false nm _ HWD.out HN.out).mono ?_
        rintro e w2 ⟨rfl, rfl⟩
        go_wp2
        go_ret
        exact ⟨ret_bool HB.out.symm, hx.alloc _⟩
      have HWD := Lib.hid hwd; clear hwd
      by_cases hl2 : lv < 2
      · have HB : Hid (schB s = false) := Lib.hid (HV.out (fun h => by have := h.2.1; rw [HLV.out] at this; omega))
        go_wp2_with fail
        refine (isWord_b true nm _ HWD.out HN.out).mono ?_
        rintro e w2 ⟨rfl, rfl⟩
        go_wp2
        go_ret
        exact ⟨ret_bool HB.out.symm, hx.alloc _⟩
      by_cases hl8 : 8 < lv
      · have HB : Hid (schB s = false) := Lib.hid (HV.out (fun h => by have := h.2.1; rw [HLV.out] at this; omega))
        go_wp2_with fail
        refine (isWord_b true nm _ HWD.out HN.out).mono ?_
        rintro e w2 ⟨rfl, rfl⟩
        go_wp2
        go_ret
        exact ⟨ret_bool HB.out.symm, hx.alloc _⟩
      go_wp2_with fail
      refine (isWord_b true nm _ HWD.out HN.out).mono ?_
      rintro e w2 ⟨rfl, rfl⟩
      go_wp2
      go_loopw [40] (fun i wr => ∃ l : Nat, l ≤ k ∧ i = .int .i64 l ∧ (∀ j, j < l → (vrAt s j).name ≠ nm) ∧ Ext (wo.alloc (.cells #[.string nm, .int .i64 lv] 67)) wr) (fun i _ => k - (intOf i).toNat)
      case atStart => exact ⟨0, Nat.zero_le _, rfl, (fun j hj => by omega), Ext.refl _⟩
      case round =>
        obtain ⟨l, hl, rfl, hj2, hx2⟩ := hrel
        obtain ⟨wi, rfl⟩ : ∃ wi : World, wi = wr := ⟨_, rfl⟩
        have HJ2 := Lib.hid hj2; clear hj2
        have hxx := (hx.alloc (.cells #[.string nm, .int .i64 lv] 67)).trans hx2
        have k0 := Ext.cell (hx2.alloc (.cells #[.string (vrAt s l).name, .int .i64 (vrAt s l).lev] 67)) c0
        by_cases hlt2 : l < k
        · obtain ⟨b', o', e', d0, d1⟩ := (G.out.ext hxx).at_ (k := l) (by omega)
          simp only [Option.some.injEq, Addr.mk.injEq, and_true] at e'
          obtain ⟨rfl, rfl⟩ := e'
          by_cases he : (vrAt s l).name = nm
          · have HB : Hid (schB s = false) := Lib.hid (HV.out (fun h => h.2.2 l hlt2 (by rw [HNM.out]; exact he)))
            rw [he] at k0 d0
            clear c0 c1 he
            go_wp2
            go_ret
            exact ⟨ret_bool HB.out.symm, hxx.alloc _⟩
          · have hq := str_ne he
            have HJ3 : Hid (∀ j, j < l + 1 → (vrAt s j).name ≠ nm) := Lib.hid (fun j hj => by
              by_cases e : j = l
              · subst e; exact he
              · exact HJ2.out j (by omega))
            clear c0 c1
            go_wp2
            go_roundw
            case rel => exact ⟨l + 1, by omega, by go_num, HJ3.out, hx2.alloc _⟩
            case measure => simp [intOf]; omega
        · have HJ3 : Hid (∀ j, j < k + 1 → VarP s j) := Lib.hid (fun j hj => by
            by_cases e : j = k
            · subst e
              exact ⟨by rw [HNM.out]; exact wordB_true.1 HWD.out, by rw [HLV.out]; omega, fun i hi => by rw [HNM.out]; exact HJ2.out i (by omega)⟩
            · exact HJ.out j (by omega))
          clear c0 c1
          go_wp2
          go_roundw
          case rel => exact ⟨k + 1, by omega, by go_num, HJ3.out, hxx⟩
          case measure => simp [intOf]; omega
    · have HB : Hid (schB s = true) := Lib.hid (schB_true.2 ⟨by omega, fun j hj => HJ.out j (by omega)⟩)
      go_wp2
      go_ret
      exact ⟨ret_bool HB.out.symm, hx⟩
end Go.Proofs.Ytolmmhdeebgglaa
