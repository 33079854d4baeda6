/- Whether a table follows from another one: the spec's and the program's. -/
import Derived.Test.YtolmmhdeebgglaaTe
namespace Go.Proofs.Ytolmmhdeebgglaa
open Go.RowKit

theorem bv_sub (A B : BitVec 64) : A &&& B = A ↔ A &&& ~~~B = 0#64 := by
  constructor
  · intro h
    rw [← h]
    ext i hi
    simp
  · intro h
    ext i hi
    have h2 : (A &&& ~~~B)[i] = (0#64)[i] := by rw [h]
    simp only [BitVec.getElem_and, BitVec.getElem_not, BitVec.getElem_zero] at h2 ⊢
    revert h2
    cases A[i] <;> cases B[i] <;> simp
theorem bv_of {a : Int} (h : 0 ≤ a ∧ a ≤ 255) : (BitVec.ofInt 64 a).toNat = a.toNat := by
  rw [BitVec.toNat_ofInt]
  omega
theorem bits_and {a b : Int} (ha : 0 ≤ a ∧ a ≤ 255) : bits .and .i64 a b = ((BitVec.ofInt 64 a &&& BitVec.ofInt 64 b).toNat : Int) := by
  show IntKind.i64.wrap ((BitVec.ofInt 64 a &&& BitVec.ofInt 64 b).toNat : Int) = _
  have h1 : (BitVec.ofInt 64 a &&& BitVec.ofInt 64 b).toNat ≤ (BitVec.ofInt 64 a).toNat := by rw [BitVec.toNat_and]; exact Nat.and_le_left
  rw [bv_of ha] at h1
  exact IntWalk.i64_in _ (by omega)
theorem bits_andNot {a b : Int} (ha : 0 ≤ a ∧ a ≤ 255) : bits .andNot .i64 a b = ((BitVec.ofInt 64 a &&& ~~~(BitVec.ofInt 64 b)).toNat : Int) := by
  show IntKind.i64.wrap ((BitVec.ofInt 64 a &&& ~~~(BitVec.ofInt 64 b)).toNat : Int) = _
  have h1 : (BitVec.ofInt 64 a &&& ~~~(BitVec.ofInt 64 b)).toNat ≤ (BitVec.ofInt 64 a).toNat := by rw [BitVec.toNat_and]; exact Nat.and_le_left
  rw [bv_of ha] at h1
  exact IntWalk.i64_in _ (by omega)
/-- all values of a lie in b -/
def SubV (a b : Int) : Prop := bits .and .i64 a b = a
theorem subV_bv {a b : Int} (ha : 0 ≤ a ∧ a ≤ 255) : SubV a b ↔ BitVec.ofInt 64 a &&& BitVec.ofInt 64 b = BitVec.ofInt 64 a := by
  unfold SubV
  rw [bits_and ha]
  constructor
  · intro h; apply BitVec.eq_of_toNat_eq; rw [bv_of ha]; omega
  · intro h; rw [h, bv_of ha]; omega
theorem subV_not {a b : Int} (ha : 0 ≤ a ∧ a ≤ 255) : SubV a b ↔ bits .andNot .i64 a b = 0 := by
  rw [subV_bv ha, bv_sub, bits_andNot ha]
  constructor
  · intro h; rw [h]; rfl
  · intro h; apply BitVec.eq_of_toNat_eq; simp only [BitVec.toNat_zero]; omega
theorem subV_refl {a : Int} (ha : 0 ≤ a ∧ a ≤ 255) : SubV a a := by rw [subV_bv ha]; simp
theorem subV_trans {a b c : Int} (ha : 0 ≤ a ∧ a ≤ 255) (hb : 0 ≤ b ∧ b ≤ 255) (h1 : SubV a b) (h2 : SubV b c) : SubV a c := by
  rw [subV_bv ha] at h1 ⊢
  rw [subV_bv hb] at h2
  rw [← h1, BitVec.and_assoc, h2]

/-- the values that a table takes of a variable -/
def setV (s : List Vr) (t : Ta) (k : Nat) : Int := if ix t.cond k = 0 then fullV (vrAt s k).lev else ix t.cond k
theorem setV_range {s : List Vr} {t : Ta} (hs : SchP s) (hw : WhereP s t.cond) {k : Nat} (hk : k < s.length) : 0 ≤ setV s t k ∧ setV s t k ≤ 255 := by
  have h1 := fullV_pos (hs.2 k hk).2.1
  have h2 := hw.2 k hk
  unfold setV
  split <;> omega
def leafAt (par : List Int) (k : Nat) : Nat := (ix (leafL par) k).toNat
/-- the areas of one level are made up of those of another one -/
def LvP (par : List Int) (tl ul : Int) : Prop := tl ≤ ul ∧ (tl < ul → ∀ k, k < (leafL par).length → ¬ (tl ≤ dep par (leafAt par k) ∧ (dep par (leafAt par k) : Int) < ul))
open Classical in
noncomputable def lvB (par : List Int) (tl ul : Int) : Bool := decide (LvP par tl ul)
theorem lvB_true {par : List Int} {tl ul : Int} : lvB par tl ul = true ↔ LvP par tl ul := by simp [lvB]
theorem lvB_not {par : List Int} {tl ul : Int} (h : ¬ LvP par tl ul) : lvB par tl ul = false := by simp [lvB, h]
def SumP (t u : Ta) : Prop := t.sum = u.sum ∨ (u.sum = -1 ∧ hasI u.vars t.sum = true)
def VarsP (t u : Ta) : Prop := ∀ k, k < t.vars.length → hasI u.vars (ix t.vars k) = true
def SetsP (s : List Vr) (t u : Ta) : Prop := ∀ k, k < s.length → setV s t k = setV s u k ∨ (hasI u.vars k = true ∧ SubV (setV s t k) (setV s u k))
def FolP (par : List Int) (s : List Vr) (t u : Ta) : Prop := LvP par t.level u.level ∧ SumP t u ∧ VarsP t u ∧ SetsP s t u
open Classical in
noncomputable def folB (par : List Int) (s : List Vr) (t u : Ta) : Bool := decide (FolP par s t u)
theorem folB_true {par : List Int} {s : List Vr} {t u : Ta} : folB par s t u = true ↔ FolP par s t u := by simp [folB]
theorem folB_not {par : List Int} {s : List Vr} {t u : Ta} (h : ¬ FolP par s t u) : folB par s t u = false := by simp [folB, h]
theorem lev_nonneg {par : List Int} {s : List Vr} {t : Ta} (h : TabP par s t) : 0 ≤ t.level := by
  have h1 := h.2.2.2.1
  cases e : levL par t.level with
  | nil => rw [e] at h1; exact absurd rfl h1
  | cons x xs =>
    have hm : x ∈ levTo par t.level par.length := by show x ∈ levL par t.level; rw [e]; simp
    obtain ⟨i, _, _, h2⟩ := (levTo_mem _ _).1 hm
    omega

set_option maxHeartbeats 400000 in
theorem lSet_c (v1 v2 : Value) (s : List Vr) (t : Ta) (k : Nat) (w : World) (h1 : Vrs w v1 s) (h2 : TaR w v2 t) (hs : SchP s) (hw : t.cond.length = s.length) (hk : k < s.length) :
    Calls Try.prog 55 #[v1, v2, .int .i64 k] w fun e w' => e = .returned (.int .i64 (setV s t k)) ∧ Ext w w' := by
  have hlv := (hs.2 k hk).2.1
  clear hs
  obtain ⟨x1, x2, rfl, i1, i2⟩ := h2
  clear i1
  obtain ⟨a2, c2, rfl, p1, p2, g2⟩ := i2
  have u0 := (Ext.refl w).alloc (.cells #[.int .i64 t.level, x1, .slice a2 t.cond.length c2, .int .i64 t.sum] 56)
  have b0 := Box.new w 56 #[.int .i64 t.level, x1, .slice a2 t.cond.length c2, .int .i64 t.sum] rfl
  have k2 := b0.cell 2 (by simp)
  obtain ⟨b, o, rfl, hc'⟩ := g2 k (by omega)
  have hc := Ext.cell u0 hc'
  clear hc' g2
  have V1 := Lib.hid (h1.ext u0)
  obtain ⟨a1, c1, rfl, e1, e2, g1⟩ := h1
  obtain ⟨b1, o1, rfl, hd0', hd1'⟩ := g1.at_ hk
  have hd0 := Ext.cell u0 hd0'
  have hd1 := Ext.cell u0 hd1'
  clear hd0' hd1' g1
  have hk1 : (k : Int) < (s.length : Int) := by omega
  have hk2 : (k : Int) < (t.cond.length : Int) := by omega
  have HS : Hid (setV s t k = if ix t.cond k = 0 then fullV (vrAt s k).lev else ix t.cond k) := Lib.hid rfl
  clear hw
  by_cases hz : ix t.cond k = 0
  · have HS2 : Hid (fullV (vrAt s k).lev = setV s t k) := Lib.hid (by rw [HS.out, if_pos hz])
    rw [hz] at hc
    clear hz
    go_enter Try.func55, Try.ntmps55
    go_wp2_with fail
    refine (eFull_c _ s k _ V1.out hk hlv).mono ?_
    rw [HS2.out]
    rintro e w1 ⟨rfl, m, rfl⟩
    go_wp2
    go_ret
    exact ⟨rfl, u0.drewN m⟩
  · have HS2 : Hid (ix t.cond k = setV s t k) := Lib.hid (by rw [HS.out, if_neg hz])
    have hq : (ix t.cond k == 0) = false := by simp; exact hz
    go_enter Try.func55, Try.ntmps55
    go_wp2_with fail
    go_ret
    exact ⟨ret_int HS2.out, u0⟩
set_option maxHeartbeats 400000 in
theorem conditionOf_c (v1 v2 : Value) (s : List Vr) (t : Ta) (k : Nat) (w : World) (h1 : Vrs w v1 s) (h2 : TaR w v2 t) (hs : SchP s) (hw : t.cond.length = s.length) (hk : k < s.length) :
    Calls Try.prog 75 #[v1, v2, .int .i64 k] w fun e w' => e = .returned (.int .i64 (setV s t k)) ∧ Ext w w' := by
  have hlv := (hs.2 k hk).2.1
  clear hs
  obtain ⟨x1, x2, rfl, i1, i2⟩ := h2
  clear i1
  obtain ⟨a2, c2, rfl, p1, p2, g2⟩ := i2
  have u0 := (Ext.refl w).alloc (.cells #[.int .i64 t.level, x1, .slice a2 t.cond.length c2, .int .i64 t.sum] 56)
  have b0 := Box.new w 56 #[.int .i64 t.level, x1, .slice a2 t.cond.length c2, .int .i64 t.sum] rfl
  have k2 := b0.cell 2 (by simp)
  obtain ⟨b, o, rfl, hc'⟩ := g2 k (by omega)
  have hc := Ext.cell u0 hc'
  clear hc' g2
  have V1 := Lib.hid (h1.ext u0)
  obtain ⟨a1, c1, rfl, e1, e2, g1⟩ := h1
  obtain ⟨b1, o1, rfl, hd0', hd1'⟩ := g1.at_ hk
  have hd0 := Ext.cell u0 hd0'
  have hd1 := Ext.cell u0 hd1'
  clear hd0' hd1' g1
  have hk1 : (k : Int) < (s.length : Int) := by omega
  have hk2 : (k : Int) < (t.cond.length : Int) := by omega
  have HS : Hid (setV s t k = if ix t.cond k = 0 then fullV (vrAt s k).lev else ix t.cond k) := Lib.hid rfl
  clear hw
  by_cases hz : ix t.cond k = 0
  · have HS2 : Hid (fullV (vrAt s k).lev = setV s t k) := Lib.hid (by rw [HS.out, if_pos hz])
    rw [hz] at hc
    clear hz
    go_enter Try.func75, Try.ntmps75
    go_wp2_with fail
    refine (fullSet_c _ _ _ hlv).mono ?_
    rw [HS2.out]
    rintro e w1 ⟨rfl, u1⟩
    go_wp2
    go_ret
    exact ⟨rfl, u0.trans u1⟩
  · have HS2 : Hid (ix t.cond k = setV s t k) := Lib.hid (by rw [HS.out, if_neg hz])
    have hq : (ix t.cond k == 0) = false := by simp; exact hz
    go_enter Try.func75, Try.ntmps75
    go_wp2_with fail
    go_ret
    exact ⟨ret_int HS2.out, u0⟩
set_option maxHeartbeats 1600000 in
theorem lLevels_b (b : Bool) (v1 v2 v3 : Value) (T : Ge) (t u : Ta) (w : World) (hb : lvB T.par t.level u.level = b) (h1 : GeR w v1 T) (h2 : TaR w v2 t) (h3 : TaR w v3 u) (hg : GeoP T.par) (ht : 0 ≤ t.level) (hu : 0 ≤ u.level) :
    Calls Try.prog 68 #[v1, v2, v3] w fun e w' => e = .returned (.bool b) ∧ Ext w w' := by
  subst hb
  have HG := Lib.hid hg; clear hg
  have R1 := Lib.hid h1
  obtain ⟨y1, rfl, i1⟩ := h1
  obtain ⟨x1, x2, rfl, i2, i3⟩ := h2
  obtain ⟨z1, z2, rfl, i4, i5⟩ := h3
  clear i1 i2 i3 i4 i5
  obtain ⟨A, hA⟩ : ∃ A, t.level = A := ⟨_, rfl⟩
  obtain ⟨B, hB⟩ : ∃ B, t.sum = B := ⟨_, rfl⟩
  obtain ⟨C, hC⟩ : ∃ C, u.level = C := ⟨_, rfl⟩
  obtain ⟨D, hD⟩ : ∃ D, u.sum = D := ⟨_, rfl⟩
  rw [hA] at ht
  rw [hC] at hu
  rw [hA, hB, hC, hD]
  clear hA hB hC hD
  have u0 := (((Ext.refl w).alloc (.cells #[y1] 33)).alloc (.cells #[.int .i64 A, x1, x2, .int .i64 B] 56)).alloc (.cells #[.int .i64 C, z1, z2, .int .i64 D] 56)
  have b1 := ((Box.new w 33 #[y1] rfl).alloc (.cells #[.int .i64 A, x1, x2, .int .i64 B] 56)).alloc (.cells #[.int .i64 C, z1, z2, .int .i64 D] 56)
  have b2 := (Box.new (w.alloc (.cells #[y1] 33)) 56 #[.int .i64 A, x1, x2, .int .i64 B] (b := w.heap.size + 1) (by simp)).alloc (.cells #[.int .i64 C, z1, z2, .int .i64 D] 56)
  have b3 := Box.new ((w.alloc (.cells #[y1] 33)).alloc (.cells #[.int .i64 A, x1, x2, .int .i64 B] 56)) 56 #[.int .i64 C, z1, z2, .int .i64 D] (b := w.heap.size + 1 + 1) (by simp)
  have R1 := Lib.hid (R1.out.ext u0)
  have c1 := b1.cell 0 (by simp)
  have d1 := b2.cell 0 (by simp)
  have e1 := b3.cell 0 (by simp)
  by_cases hge : C ≤ A
  · by_cases heq : A = C
    · have HB := Lib.hid (lvB_true.2 (show LvP T.par A C from ⟨by omega, fun h => by omega⟩))
      have hq : (A == C) = true := by simp [heq]
      clear heq
      go_enter Try.func68, Try.ntmps68
      go_wp2_with fail
      go_ret
      exact ⟨ret_bool HB.out.symm, u0⟩
    · have HB := Lib.hid (lvB_not (show ¬ LvP T.par A C from fun h => by have := h.1; omega))
      have hq : (A == C) = false := by simp [heq]
      go_enter Try.func68, Try.ntmps68
      go_wp2_with fail
      go_ret
      exact ⟨ret_bool HB.out.symm, u0⟩
  · go_enter Try.func68, Try.ntmps68
    go_wp2_with fail
    obtain ⟨wq, hwq⟩ : ∃ wq, wq = ((w.alloc (.cells #[y1] 33)).alloc (.cells #[.int .i64 A, x1, x2, .int .i64 B] 56)).alloc (.cells #[.int .i64 C, z1, z2, .int .i64 D] 56) := ⟨_, rfl⟩
    rw [← hwq] at u0 b1 b2 b3 R1 ⊢
    clear hwq c1 d1 e1
    refine (gLeaves_c _ T _ R1.out HG.out).mono ?_
    rintro e w1 ⟨zl, rfl, il, u1⟩
    obtain ⟨al, cl, rfl, l1, l2, gl⟩ := il
    obtain ⟨L, hL⟩ : ∃ L, (leafL T.par).length = L := ⟨_, rfl⟩
    rw [hL] at l1 ⊢
    have HL := Lib.hid hL; clear hL
    have GL := Lib.hid gl; clear gl
    go_wp2_with fail
    go_loopw [22] (fun i wr => ∃ k : Nat, k ≤ L ∧ i = .int .i64 k ∧ (∀ j, j < k → ¬ (A ≤ dep T.par (leafAt T.par j) ∧ (dep T.par (leafAt T.par j) : Int) < C)) ∧ Ext w1 wr) (fun i _ => L - (intOf i).toNat)
    case atStart => exact ⟨0, Nat.zero_le _, rfl, (fun j hj => by omega), Ext.refl _⟩
    case round =>
      obtain ⟨k, hk, rfl, hj, hx⟩ := hrel
      obtain ⟨wo, rfl⟩ : ∃ wo : World, wo = wr := ⟨_, rfl⟩
      have HJ := Lib.hid hj; clear hj
      by_cases hlt : k < L
      · obtain ⟨bb, oo, rfl, hc'⟩ := GL.out k (by rw [HL.out]; exact hlt)
        have hc := Ext.cell hx hc'
        clear hc'
        obtain ⟨i, ei, hi⟩ := leafL_at (par := T.par) (k := k) (by rw [HL.out]; exact hlt)
        have HLA : Hid (leafAt T.par k = i) := Lib.hid (by unfold leafAt; omega)
        rw [ei] at hc
        have HI := Lib.hid hi
        clear ei hi
        have bg := b1.ext (u1.trans hx)
        have bt := b2.ext (u1.trans hx)
        have bu := b3.ext (u1.trans hx)
        have c1 := bg.cell 0 (by simp)
        have d1 := bt.cell 0 (by simp)
        have e1 := bu.cell 0 (by simp)
        have HN : Hid (¬ (A ≤ dep T.par i ∧ (dep T.par i : Int) < C) → ∀ j, j < k + 1 → ¬ (A ≤ dep T.par (leafAt T.par j) ∧ (dep T.par (leafAt T.par j) : Int) < C)) := Lib.hid (fun h j hj => by
          by_cases e : j = k
          · subst e; rw [HLA.out]; exact h
          · exact HJ.out j (by omega))
        by_cases hd1 : A ≤ dep T.par i
        · obtain ⟨p, hp, _, _⟩ := ancL_dep HG.out ht i HI.out hd1
          have HP := Lib.hid hp; clear hp
          by_cases hd2 : C ≤ dep T.par i
          · obtain ⟨q, hq, _, _⟩ := ancL_dep HG.out hu i HI.out hd2
            have HQ := Lib.hid hq; clear hq
            have HX := Lib.hid (HN.out (fun h => by omega))
            clear hd1 hd2 HN
            go_wp2_with fail
            refine (gUp_c _ T i A _ (R1.out.ext (u1.trans hx)) HG.out HI.out).mono ?_
            rw [HP.out]
            rintro e w2 ⟨rfl, u2⟩
            have c2 := (bg.ext u2).cell 0 (by simp)
            have e2 := (bu.ext u2).cell 0 (by simp)
            go_wp2_with fail
            refine (gUp_c _ T i C _ (R1.out.ext ((u1.trans hx).trans u2)) HG.out HI.out).mono ?_
            rw [HQ.out]
            rintro e w3 ⟨rfl, u3⟩
            go_wp2
            go_roundw
            case rel => exact ⟨k + 1, by omega, by go_num, HX.out, (hx.trans u2).trans u3⟩
            case measure => simp [intOf]; omega
          · have HQ := Lib.hid (ancL_not (par := T.par) (i := i) (lev := C) (.inr (by omega)))
            have HB := Lib.hid (lvB_not (show ¬ LvP T.par A C from fun h => h.2 (by omega) k (by rw [HL.out]; exact hlt) ⟨by rw [HLA.out]; exact hd1, by rw [HLA.out]; omega⟩))
            clear hd1 hd2 HN
            go_wp2_with fail
            refine (gUp_c _ T i A _ (R1.out.ext (u1.trans hx)) HG.out HI.out).mono ?_
            rw [HP.out]
            rintro e w2 ⟨rfl, u2⟩
            have c2 := (bg.ext u2).cell 0 (by simp)
            have e2 := (bu.ext u2).cell 0 (by simp)
            go_wp2_with fail
            refine (gUp_c _ T i C _ (R1.out.ext ((u1.trans hx).trans u2)) HG.out HI.out).mono ?_
            rw [HQ.out]
            rintro e w3 ⟨rfl, u3⟩
            go_wp2
            go_ret
            exact ⟨ret_bool HB.out.symm, (((u0.trans u1).trans hx).trans u2).trans u3⟩
        · have HP := Lib.hid (ancL_not (par := T.par) (i := i) (lev := A) (.inr (by omega)))
          have HX := Lib.hid (HN.out (fun h => by omega))
          clear hd1 HN
          go_wp2_with fail
          refine (gUp_c _ T i A _ (R1.out.ext (u1.trans hx)) HG.out HI.out).mono ?_
          rw [HP.out]
          rintro e w2 ⟨rfl, u2⟩
          go_wp2
          go_roundw
          case rel => exact ⟨k + 1, by omega, by go_num, HX.out, hx.trans u2⟩
          case measure => simp [intOf]; omega
      · have HB := Lib.hid (lvB_true.2 (show LvP T.par A C from ⟨by omega, fun _ j hj => HJ.out j (by rw [HL.out] at hj; omega)⟩))
        go_wp2
        go_ret
        exact ⟨ret_bool HB.out.symm, (u0.trans u1).trans hx⟩
end Go.Proofs.Ytolmmhdeebgglaa
