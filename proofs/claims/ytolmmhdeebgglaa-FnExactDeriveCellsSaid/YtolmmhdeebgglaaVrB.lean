/- Contracts of the laws' own helpers over slices of variables. -/
import Derived.Test.YtolmmhdeebgglaaProg
import Derived.Test.YtolmmhdeebgglaaVr
import Derived.Deep.RegionHeld3
import Derived.Laws.BytesArg
import Derived.Laws.Concat
namespace Go.Proofs.Ytolmmhdeebgglaa
open Go.RowKit

def VrSmall (s : List Vr) : Prop := s.length ≤ 1048576 ∧ ∀ k, k < s.length → (vrAt s k).name.size ≤ 1048576

set_option maxHeartbeats 400000 in
theorem szVariable_c (nm : ByteArray) (lev left : Int) (w : World) (hn : nm.size ≤ 9223372036854775807) (h0 : 0 ≤ left ∧ left ≤ 1048576) :
    Calls Try.prog 36 #[.agg #[.string nm, .int .i64 lev], .int .i64 left] w fun e w' => ∃ r, e = .returned (.int .i64 r) ∧ (r < 0 ∨ (0 ≤ r ∧ r ≤ left ∧ nm.size ≤ 1048576)) ∧ Ext w w' := by
  have u0 := (Ext.refl w).alloc (.cells #[.string nm, .int .i64 lev] 64)
  have h9 : (nm.size : Int) ≤ 9223372036854775807 := by omega
  by_cases h : left - (nm.size : Int) < 0
  · go_enter Try.func36, Try.ntmps36
    go_wp2
    go_ret
    exact ⟨_, rfl, .inl (by omega), u0⟩
  · go_enter Try.func36, Try.ntmps36
    go_wp2
    go_ret
    exact ⟨_, rfl, .inr ⟨by omega, by omega, by omega⟩, u0⟩
set_option maxHeartbeats 400000 in
theorem szVariableS_c (v : Value) (s : List Vr) (left : Int) (w : World) (h : Vrs w v s) (hw : WfV s) (h0 : 0 ≤ left ∧ left ≤ 1048576) :
    Calls Try.prog 7 #[v, .int .i64 left] w fun e w' => ∃ r, e = .returned (.int .i64 r) ∧ (r < 0 ∨ (0 ≤ r ∧ r ≤ left ∧ VrSmall s)) ∧ Ext w w' := by
  obtain ⟨ao, cap, rfl, h1, h2, h3⟩ := h
  have G := Lib.hid h3; clear h3
  have HW : Hid (∀ k, k < s.length → (vrAt s k).name.size ≤ 9223372036854775807) := Lib.hid (fun k hk => (hw _ (vrAt_mem hk)).2)
  have h9 : (s.length : Int) ≤ 9223372036854775807 := by omega
  by_cases hb : left - (s.length : Int) < 0
  · go_enter Try.func7, Try.ntmps7
    go_wp2
    all_goals go_ret
    all_goals exact ⟨_, rfl, .inl (by omega), Ext.refl w⟩
  · have hl8 : s.length ≤ 1048576 := by omega
    have HB := Lib.hid hb; clear hb
    go_enter Try.func7, Try.ntmps7
    go_wp2
    go_loopw [1, 5] (fun t i wr => ∃ (k : Nat) (l : Int), k ≤ s.length ∧ i = .int .i64 k ∧ t = .int .i64 l ∧ 0 ≤ l ∧ l ≤ left ∧ (∀ j, j < k → (vrAt s j).name.size ≤ 1048576) ∧ Ext w wr) (fun _ i _ => s.length - (intOf i).toNat)
    case atStart => exact ⟨0, left - s.length, Nat.zero_le _, rfl, rfl, by have := HB.out; omega, by omega, (fun j hj => by omega), Ext.refl w⟩
    case round =>
      obtain ⟨k, l, hk, rfl, rfl, hl0, hl1, hj, hx⟩ := hrel
      have HJ := Lib.hid hj; clear hj
      by_cases hlt : k < s.length
      · obtain ⟨b, o, rfl, hc0, hc1⟩ := (G.out.ext hx).at_ hlt
        go_wp2_with fail
        refine (szVariable_c _ _ l _ (HW.out k hlt) (by omega)).mono ?_
        rintro e w1 ⟨r, rfl, hr, u1⟩
        rcases hr with hr | ⟨q1, q2, q3⟩
        · go_wp2
          go_ret
          exact ⟨_, rfl, .inl (by omega), hx.trans u1⟩
        · have HJ2 : Hid (∀ j, j < k + 1 → (vrAt s j).name.size ≤ 1048576) := Lib.hid (fun j hj => by
            by_cases e : j = k
            · subst e; exact q3
            · exact HJ.out j (by omega))
          clear q3
          go_wp2
          go_roundw
          case rel => exact ⟨k + 1, r, by omega, by go_num, rfl, by omega, by omega, HJ2.out, hx.trans u1⟩
          case measure => simp [intOf]; omega
      · have hkl : k = s.length := by omega
        have HK := Lib.hid hkl; clear hkl
        go_wp2
        go_ret
        exact ⟨_, rfl, .inr ⟨hl0, hl1, hl8, fun j hj => HJ.out j (by have := HK.out; omega)⟩, hx⟩
set_option maxHeartbeats 400000 in
theorem toVariable_c (nm : ByteArray) (lev : Int) (w : World) :
    Calls Try.prog 39 #[.agg #[.string nm, .int .i64 lev]] w fun e w' => e = .returned (.agg #[.string nm, .int .i64 lev]) ∧ Ext w w' := by
  go_enter Try.func39, Try.ntmps39
  go_wp2
  refine bodyPost_ret (v := .agg #[.string nm, .int .i64 lev]) (by simp [results, Try.results39, go_sem]) rfl ⟨rfl, (((Ext.refl w).alloc _).alloc _).alloc _⟩
theorem info_variable : (Try.prog.info? 67).map (fun i => (i.zero, i.size, i.bytes)) = some (some (.agg #[.string ByteArray.empty, .int .i64 0]), 2, 24) := by kernel_rfl
set_option maxHeartbeats 400000 in
theorem toVariableS_c (v : Value) (s : List Vr) (w : World) (h : Vrs w v s) (hl : s.length ≤ 1048576) :
    Calls Try.prog 11 #[v] w fun e w' => ∃ v', e = .returned v' ∧ OwnV 67 w.heap.size w'.heap.size w' v' s ∧ Ext w w' := by
  obtain ⟨ao, cap, rfl, h1, h2, h3⟩ := h
  have G := Lib.hid h3; clear h3
  have hmk := run_make_wide (P := Try.prog) 35 67 (.agg #[.string ByteArray.empty, .int .i64 0]) 2 24 Try.underlying35 info_variable .i64 .i64 s.length (by omega) (by omega)
  have hst := rowIs_made_wide w (Value.agg #[.string ByteArray.empty, .int .i64 0]).cells (s.length * 2) 67
  obtain ⟨Z, hZ⟩ : ∃ Z, (Value.agg #[.string ByteArray.empty, .int .i64 0]).cells = Z := ⟨_, rfl⟩
  rw [hZ] at hst
  simp only [hZ] at hmk
  clear hZ
  obtain ⟨f0, hf0⟩ : ∃ f : Nat → Value, (fun i => Z[i % Z.size]!) = f := ⟨_, rfl⟩
  rw [hf0] at hst
  clear hf0
  have HST := Lib.hid hst; clear hst
  go_enter Try.func11, Try.ntmps11
  go_wp2
  go_loopw [4] (fun i wr => ∃ k : Nat, k ≤ s.length ∧ i = .int .i64 k ∧ wr.rowIs w.heap.size 67 (s.length * 2) (fun j => if j < k * 2 then vrCell s j else f0 j) ∧ Ext w wr) (fun i _ => s.length - (intOf i).toNat)
  case atStart => exact ⟨0, Nat.zero_le _, rfl, HST.out.congr (fun j _ => by simp), (Ext.refl _).alloc _⟩
  case round =>
    clear HST
    obtain ⟨k, hk, rfl, hrow, hx⟩ := hrel
    have HR := Lib.hid hrow; clear hrow
    by_cases hlt : k < s.length
    · obtain ⟨b, o, rfl, hc0, hc1⟩ := (G.out.ext hx).at_ hlt
      go_wp2_with fail
      refine (toVariable_c _ _ _).mono ?_
      rintro e w1 ⟨rfl, u1⟩
      have hrow1 := rowIs_ext HR.out u1
      have hfr0 := hrow1.frozen (k * 2)
      have hfr1 := hrow1.frozen (k * 2 + 1)
      have hcell0 := hrow1.cell (i := k * 2) (by omega)
      have hcell1 := hrow1.cell (i := k * 2 + 1) (by omega)
      have HR1 := Lib.hid hrow1; clear hrow1
      go_wp2
      go_roundw
      case rel =>
        refine ⟨k + 1, by omega, by go_num, ((HR1.out.set (k * 2) _).set (k * 2 + 1) _).congr (fun j hj => ?_), ((hx.trans u1).setCell _ (Nat.le_refl _)).setCell _ (Nat.le_refl _)⟩
        by_cases e1 : j = k * 2 + 1
        · subst e1
          rw [if_pos rfl, if_pos (by omega), vrCell1]
        · rw [if_neg e1]
          by_cases e0 : j = k * 2
          · subst e0
            rw [if_pos rfl, if_pos (by omega), vrCell0]
          · rw [if_neg e0]
            have : (j < (k + 1) * 2) = (j < k * 2) := by apply propext; omega
            simp [this]
      case measure => simp [intOf]; omega
    · have hkl : k = s.length := by omega
      have HK := Lib.hid hkl; clear hkl
      go_wp2
      go_ret
      exact ⟨_, rfl, ⟨_, _, rfl, Nat.le_refl _, by omega, OwnC.of_rowIs (HR.out.congr (fun j hj => by rw [if_pos (by have := HK.out; omega)])) (Nat.le_refl _) HR.out.lt⟩, hx⟩
set_option maxHeartbeats 400000 in
theorem eqVariable_t (nm : ByteArray) (lev : Int) (w : World) :
    Calls Try.prog 42 #[.agg #[.string nm, .int .i64 lev], .agg #[.string nm, .int .i64 lev]] w fun e w' => e = .returned (.bool true) ∧ Ext w w' := by
  go_enter Try.func42, Try.ntmps42
  go_wp2
  go_ret
  exact ⟨rfl, ((Ext.refl w).alloc _).alloc _⟩
set_option maxHeartbeats 400000 in
theorem eqVariableS_t (v1 v2 : Value) (s : List Vr) (w : World) (h1 : Vrs w v1 s) (h2 : Vrs w v2 s) :
    Calls Try.prog 16 #[v1, v2] w fun e w' => e = .returned (.bool true) ∧ Ext w w' := by
  obtain ⟨a1, c1, rfl, e1, e2, g1⟩ := h1
  obtain ⟨a2, c2, rfl, e3, e4, g2⟩ := h2
  have G1 := Lib.hid g1; clear g1
  have G2 := Lib.hid g2; clear g2
  have hl1 : s.length ≤ 9223372036854775807 := by omega
  have hb : ((s.length : Int) != (s.length : Int)) = false := by simp
  go_enter Try.func16, Try.ntmps16
  go_wp2
  go_loopw [5] (fun i wr => ∃ k : Nat, k ≤ s.length ∧ i = .int .i64 k ∧ Ext w wr) (fun i _ => s.length - (intOf i).toNat)
  case atStart => exact ⟨0, Nat.zero_le _, rfl, Ext.refl _⟩
  case round =>
    obtain ⟨k, hk, rfl, hx⟩ := hrel
    obtain ⟨wo, rfl⟩ : ∃ wo : World, wo = wr := ⟨_, rfl⟩
    by_cases hlt : k < s.length
    · obtain ⟨b1, o1, rfl, d1, d1'⟩ := (G1.out.ext hx).at_ hlt
      obtain ⟨b2, o2, rfl, d2, d2'⟩ := (G2.out.ext hx).at_ hlt
      have hk0 : (0 : Int) ≤ (k : Int) := by omega
      have hk1 : (k : Int) < (s.length : Int) := by omega
      go_wp2_with fail
      go_region_held3 (fun w' => w'.cell? ⟨b1, o1 + k * 2, none⟩ = some (.string (vrAt s k).name) ∧ w'.cell? ⟨b1, o1 + k * 2 + 1, none⟩ = some (.int .i64 (vrAt s k).lev) ∧ w'.cell? ⟨b2, o2 + k * 2, none⟩ = some (.string (vrAt s k).name) ∧ w'.cell? ⟨b2, o2 + k * 2 + 1, none⟩ = some (.int .i64 (vrAt s k).lev))
        (first | exact ⟨Ext.cell u1 d1, Ext.cell u1 d1', Ext.cell u1 d2, Ext.cell u1 d2'⟩ | go_keep)
        ((first | (go_at_call 42; refine (eqVariable_t _ _ _).mono ?_; rintro e w1 ⟨rfl, u1⟩)))
      go_wp2
      go_roundw
      case rel => exact ⟨k + 1, by omega, by go_num, (hx.drew).trans u1⟩
      case measure => simp [intOf]; omega
    · go_wp2
      go_ret
      exact ⟨rfl, hx⟩
set_option maxRecDepth 100000 in
set_option maxHeartbeats 400000 in
theorem markText_c (k0 : Int) (w : World) (hk : 1 ≤ k0 ∧ k0 ≤ 1099511627776) :
    Calls Try.prog 43 #[.int .i64 k0] w fun e w' => ∃ t, e = .returned (.string t) ∧ Ext w w' := by
  have HK0 : Hid ((⟨#[]⟩ : ByteArray).size + k0.toNat ≤ 1099511627776) := Lib.hid (by
    have : (⟨#[]⟩ : ByteArray).size = 0 := rfl
    rw [this]; omega)
  go_enter Try.func43, Try.ntmps43
  go_wp2
  go_loopw [0, 3] (fun i s wr => ∃ (k : Nat) (t : ByteArray), i = .int .i64 k ∧ s = .string t ∧ t.size + k ≤ 1099511627776 ∧ Ext w wr) (fun i _ _ => (intOf i).toNat)
  case atStart => exact ⟨k0.toNat, ⟨#[]⟩, by rw [Int.toNat_of_nonneg (by omega)], rfl, HK0.out, Ext.refl w⟩
  case round =>
    obtain ⟨k, t, rfl, rfl, hk, hx⟩ := hrel
    by_cases hz : 0 < k
    · have hd1 : 0 ≤ (k : Int) % 10 := by omega
      have hd2 : (k : Int) % 10 < 10 := by omega
      have hcv := run_convert_bytes_arg (P := Try.prog) (wr.alloc (.cells #[.int .u8 (48 + (k : Int) % 10)] 5)) 97 5 Try.underlying97 Try.underlying5 wr.heap.size 0 1 1 [48 + (k : Int) % 10] rfl
        (fun i hi => by have : i = 0 := by omega
                        subst this; exact (Box.new wr 5 #[.int .u8 (48 + (k : Int) % 10)] rfl).cell 0 (by simp)) 9 Try.underlying9
      obtain ⟨D, hD⟩ : ∃ D, strOfNums [48 + (k : Int) % 10] = D := ⟨_, rfl⟩
      have hDs : D.size = 1 := by rw [← hD]; rfl
      rw [hD] at hcv
      clear hD
      have hts : ¬ (9223372036854775807 < D.size + t.size) := by omega
      have hAS : (D ++ t).size = t.size + 1 := by rw [ByteArray.size_append]; omega
      have HAS := Lib.hid hAS; clear hAS
      have HDS := Lib.hid hDs; clear hDs
      go_wp2
      go_roundw
      case rel => exact ⟨k / 10, D ++ t, by rw [show ((k / 10 : Nat) : Int) = (k : Int) / 10 by omega], rfl, by rw [HAS.out]; omega, hx.alloc _⟩
      case measure => simp [intOf]; omega
    · have hk0 : k = 0 := by omega
      subst hk0
      have hts : ¬ (9223372036854775807 < 1 + t.size) := by omega
      go_wp2
      go_ret
      exact ⟨_, rfl, hx⟩
set_option maxHeartbeats 400000 in
theorem markVariableS_c (T lo hi : Nat) (v : Value) (s : List Vr) (k0 : Int) (w : World) (h : OwnV T lo hi w v s) (hl : s.length ≤ 1048576) (hk0 : 1 ≤ k0 ∧ k0 ≤ 1099500000000) :
    Calls Try.prog 19 #[v, .int .i64 k0] w fun e w' => e = .returned (.int .i64 (k0 + 2 * s.length)) ∧ Upd (VB v s) w w' := by
  obtain ⟨ao, cap, rfl, h1, h2, h3⟩ := h
  have G := Lib.hid h3; clear h3
  go_enter Try.func19, Try.ntmps19
  go_wp2
  go_loopw [1, 5] (fun t i wr => ∃ (k : Nat) (f : Nat → Value), k ≤ s.length ∧ i = .int .i64 k ∧ t = .int .i64 (k0 + 2 * k) ∧ OwnC T lo hi wr ao (s.length * 2) f ∧ Upd (fun b => w.heap.size ≤ b ∨ VB (.slice ao s.length cap) s b) w wr) (fun _ i _ => s.length - (intOf i).toNat)
  case atStart => exact ⟨0, _, Nat.zero_le _, rfl, by simp, G.out, Upd.refl _⟩
  case round =>
    obtain ⟨k, f, hk, rfl, rfl, hown, hu⟩ := hrel
    have HO := Lib.hid hown
    by_cases hlt : k < s.length
    · obtain ⟨b, o, rfl, l1, l2, l3, _, _⟩ := hown.at_ (i := k * 2) (by omega)
      clear hown
      go_wp2_with fail
      refine (markText_c (k0 + 2 * k) _ (by omega)).mono ?_
      rintro e w1 ⟨t, rfl, u1⟩
      have ho1 := HO.out.ext u1
      obtain ⟨b', o', e', _, _, _, hc, hf⟩ := ho1.at_ (i := k * 2) (by omega)
      simp only [Option.some.injEq, Addr.mk.injEq, and_true] at e'
      obtain ⟨rfl, rfl⟩ := e'
      have c0 := hc (k * 2) (by omega)
      have f0 := hf (k * 2)
      have c1 := hc (k * 2 + 1) (by omega)
      have f1 := hf (k * 2 + 1)
      rw [← Nat.add_assoc] at c1 f1
      have hne : s ≠ [] := by intro e; subst e; simp at hlt
      clear hc hf
      have HU := Lib.hid (hu.trans (u1.upd (S := fun b' => w.heap.size ≤ b' ∨ VB (.slice (some ⟨b, o, none⟩) s.length cap) s b')))
      have HO1 := Lib.hid ho1; clear ho1 hu u1
      go_wp2
      go_roundw
      case rel =>
        refine ⟨k + 1, _, by omega, by go_num, by go_num, by have := (HO1.out.set (i := k * 2) (by omega) (.string t)).set (i := k * 2 + 1) (by omega) (.int .i64 (k0 + 2 * k + 1)); rw [← Nat.add_assoc] at this; exact this, ?_⟩
        exact (HU.out.setCell (a := ⟨b, o + k * 2, none⟩) _ (fun _ => .inr ⟨hne, rfl⟩)).setCell (a := ⟨b, o + k * 2 + 1, none⟩) _ (fun _ => .inr ⟨hne, rfl⟩)
      case measure => simp [intOf]; omega
    · have hkl : k = s.length := by omega
      have HK := Lib.hid hkl; clear hkl
      clear hown
      go_wp2
      go_ret
      exact ⟨ret_int (by rw [HK.out]), hu.mono (fun b hb hs => hs.resolve_left (by omega))⟩
end Go.Proofs.Ytolmmhdeebgglaa
