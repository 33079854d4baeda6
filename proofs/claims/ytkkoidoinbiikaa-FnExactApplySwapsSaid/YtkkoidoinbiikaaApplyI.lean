/- ApplySwaps, the spec's and the program's. -/
import Derived.Test.YtkkoidoinbiikaaApply
namespace Go.Proofs.Ytkkoidoinbiikaa
open Go.RowKit

def AsP (s : List Vr) (l : List Pe) (ps : List (List Int)) : Prop := (SchP s ∧ DatP s l) ∧ PrsP l.length ps
open Classical in
noncomputable def asB (s : List Vr) (l : List Pe) (ps : List (List Int)) : Bool := decide (AsP s l ps)
noncomputable def asV (s : List Vr) (l : List Pe) (ps : List (List Int)) : List Pe := if asB s l ps = true then applyTo l ps ps.length else []
theorem DatP.row {s : List Vr} {l : List Pe} (hs : SchP s) (h : DatP s l) {k : Nat} (hk : k < l.length) : 1 ≤ (peAt l k).vals.length ∧ (peAt l k).vals.length ≤ 6 := by
  have h1 := (h.2 k hk).2.2.1
  have h2 := hs.1
  omega
theorem pz_bound {l : List Pe} {M : Nat} (h : ∀ k, k < l.length → (peAt l k).vals.length ≤ M) : ∀ k, k ≤ l.length → pz l k ≤ k * (M + 2)
  | 0, _ => by simp [pz_zero]
  | k + 1, hk => by
    rw [pz_succ (by omega)]
    have h1 := pz_bound h k (by omega)
    have h2 := h k (by omega)
    have h3 : (k + 1) * (M + 2) = k * (M + 2) + (M + 2) := Nat.succ_mul _ _
    omega
theorem asV_small (s : List Vr) (l : List Pe) (ps : List (List Int)) : PeSmall (asV s l ps) := by
  unfold asV
  split
  · rename_i h
    have h1 : AsP s l ps := by simpa [asB] using h
    obtain ⟨⟨hs, hd⟩, _⟩ := h1
    have hl := applyTo_len l ps ps.length
    have h40 := hd.1
    have hr : ∀ k, k < (applyTo l ps ps.length).length → (peAt (applyTo l ps ps.length) k).vals.length ≤ 6 := fun k hk => by
      rw [applyTo_vals]; exact (hd.row hs (by omega)).2
    refine ⟨by omega, fun k hk => by have := hr k hk; omega, ?_⟩
    have := pz_bound hr _ (Nat.le_refl _)
    rw [hl] at this ⊢
    omega
  · exact ⟨by simp, fun k hk => by simp at hk, by simp [pz]⟩
theorem retPes_nil {w w' : World} {b : Bool} (u : Ext w w') : ∃ v' rvs, Ending.returned (.tuple #[.slice none 0 0, .bool b]) = .returned (.tuple #[v', .bool b]) ∧ OwnP 50 w.heap.size w'.heap.size w' v' rvs [] ∧ Ext w w' :=
  ⟨_, [], rfl, ⟨none, 0, rfl, Nat.le_refl _, by omega, rfl, .inl rfl, fun k hk => by simp at hk, fun j k hj => by simp at hj⟩, u⟩

set_option maxRecDepth 100000 in
set_option maxHeartbeats 3200000 in
theorem specApplySwaps_c (v1 : Value) (s : List Vr) (v2 : Value) (l : List Pe) (v3 : Value) (ps : List (List Int)) (w : World) (h1 : Vrs w v1 s) (h2 : Pes w v2 l) (h3 : Grid w v3 ps) (hw : WfV s) :
    Calls Try.prog 49 #[v1, v2, v3] w fun e w' => ∃ v' rvs, e = .returned (.tuple #[v', .bool (asB s l ps)]) ∧ OwnP 50 w.heap.size w'.heap.size w' v' rvs (asV s l ps) ∧ Ext w w' := by
  have H1 := Lib.hid h1; clear h1
  have H2 := Lib.hid h2
  have H3 := Lib.hid h3
  have HW := Lib.hid hw; clear hw
  obtain ⟨a2, c2, rfl, e1, e2, g2⟩ := h2
  clear g2
  obtain ⟨a3, c3, rfl, e3, e4, g4⟩ := h3
  have G3 := Lib.hid g4; clear g4
  have HF : Hid (¬ AsP s l ps → asV s l ps = [] ∧ asB s l ps = false) := Lib.hid (fun h => by simp [asV, asB, h])
  have HT : Hid (AsP s l ps → asV s l ps = applyTo l ps ps.length ∧ asB s l ps = true) := Lib.hid (fun h => by simp [asV, asB, h])
  obtain ⟨V, hV⟩ : ∃ N, asV s l ps = N := ⟨_, rfl⟩
  obtain ⟨B, hB⟩ : ∃ N, asB s l ps = N := ⟨_, rfl⟩
  rw [hV, hB] at HF HT ⊢
  clear hV hB
  cases hs : sdB s l
  · obtain ⟨q1, q2⟩ := HF.out (fun h => by have := sdB_true.2 h.1; rw [hs] at this; cases this)
    subst q1 q2
    have HS := Lib.hid hs; clear hs HF HT
    go_enter Try.func49, Try.ntmps49
    go_wp2_with fail
    refine (dInput_b false _ _ s l _ HS.out H1.out HW.out H2.out).mono ?_
    rintro e w1 ⟨rfl, u1⟩
    go_wp2
    go_ret2
    exact retPes_nil u1
  have HS := Lib.hid hs
  have HSP := Lib.hid (sdB_true.1 hs)
  have h40 := HSP.out.2.1
  clear hs
  cases hp : prsB l.length ps
  · obtain ⟨q1, q2⟩ := HF.out (fun h => by have := prsB_true.2 h.2; rw [hp] at this; cases this)
    subst q1 q2
    have HP := Lib.hid hp; clear hp HF HT
    go_enter Try.func49, Try.ntmps49
    go_wp2_with fail
    refine (dInput_b true _ _ s l _ HS.out H1.out HW.out H2.out).mono ?_
    rintro e w1 ⟨rfl, u1⟩
    go_wp2_with fail
    refine (swPairs_b false _ ps l.length _ HP.out (H3.out.ext u1) (by omega)).mono ?_
    rintro e w2 ⟨rfl, d2⟩
    go_wp2
    go_ret2
    exact retPes_nil (u1.trans (Drew.ext d2))
  have HP := Lib.hid hp
  have HPP := Lib.hid (prsB_true.1 hp)
  clear hp
  obtain ⟨q1, q2⟩ := HT.out ⟨HSP.out, HPP.out⟩
  rw [q1, q2]
  clear HF HT q1 q2
  go_enter Try.func49, Try.ntmps49
  go_wp2_with fail
  refine (dInput_b true _ _ s l _ HS.out H1.out HW.out H2.out).mono ?_
  rintro e w1 ⟨rfl, u1⟩
  go_wp2_with fail
  refine (swPairs_b true _ ps l.length _ HP.out (H3.out.ext u1) (by omega)).mono ?_
  rintro e w2 ⟨rfl, d2⟩
  have u2 := u1.trans (Drew.ext d2)
  go_wp2_with fail
  refine (swApply_c _ _ l ps _ (H2.out.ext u2) (H3.out.ext u2) (by omega) (fun k hk => by have := HSP.out.2.row HSP.out.1 hk; omega) (fun k hk e => by have := (HSP.out.2.row HSP.out.1 hk).1; rw [e] at this; simp at this) HPP.out).mono ?_
  rintro e w3 ⟨v', rvs, rfl, o3, u3⟩
  have HO := Lib.hid (o3.mono (lo' := w.heap.size) u2.size (Nat.le_refl _)); clear o3
  go_wp2
  go_ret2
  exact ⟨_, rvs, rfl, HO.out, u2.trans u3⟩

set_option maxRecDepth 100000 in
set_option maxHeartbeats 3200000 in
theorem implApplySwaps_c (v1 : Value) (s : List Vr) (v2 : Value) (l : List Pe) (v3 : Value) (ps : List (List Int)) (w : World) (h1 : Vrs w v1 s) (h2 : Pes w v2 l) (h3 : Grid w v3 ps) (hw : WfV s) :
    Calls Try.prog 50 #[v1, v2, v3] w fun e w' => ∃ v' rvs, e = .returned (.tuple #[v', .bool (asB s l ps)]) ∧ OwnP 50 w.heap.size w'.heap.size w' v' rvs (asV s l ps) ∧ Ext w w' := by
  have H1 := Lib.hid h1; clear h1
  have H2 := Lib.hid h2
  have H3 := Lib.hid h3
  have HW := Lib.hid hw; clear hw
  obtain ⟨a2, c2, rfl, e1, e2, g2⟩ := h2
  clear g2
  obtain ⟨a3, c3, rfl, e3, e4, g4⟩ := h3
  have G3 := Lib.hid g4; clear g4
  have HF : Hid (¬ AsP s l ps → asV s l ps = [] ∧ asB s l ps = false) := Lib.hid (fun h => by simp [asV, asB, h])
  have HT : Hid (AsP s l ps → asV s l ps = applyTo l ps ps.length ∧ asB s l ps = true) := Lib.hid (fun h => by simp [asV, asB, h])
  obtain ⟨V, hV⟩ : ∃ N, asV s l ps = N := ⟨_, rfl⟩
  obtain ⟨B, hB⟩ : ∃ N, asB s l ps = N := ⟨_, rfl⟩
  rw [hV, hB] at HF HT ⊢
  clear hV hB
  cases hs : schB s
  · obtain ⟨q1, q2⟩ := HF.out (fun h => by have := schB_true.2 h.1.1; rw [hs] at this; cases this)
    subst q1 q2
    have HS := Lib.hid hs; clear hs HF HT
    go_enter Try.func50, Try.ntmps50
    go_wp2_with fail
    refine (IsSchema_b false _ s _ HS.out H1.out HW.out).mono ?_
    rintro e w1 ⟨rfl, u1⟩
    go_wp2
    go_ret2
    exact retPes_nil u1
  have HS := Lib.hid hs
  have HSP := Lib.hid (schB_true.1 hs)
  clear hs
  cases hd : datB s l
  · obtain ⟨q1, q2⟩ := HF.out (fun h => by have := datB_true.2 h.1.2; rw [hd] at this; cases this)
    subst q1 q2
    have HD := Lib.hid hd; clear hd HF HT
    go_enter Try.func50, Try.ntmps50
    go_wp2_with fail
    refine (IsSchema_b true _ s _ HS.out H1.out HW.out).mono ?_
    rintro e w1 ⟨rfl, u1⟩
    go_wp2_with fail
    refine (isData_b false _ _ s l _ HD.out (H1.out.ext u1) (H2.out.ext u1)).mono ?_
    rintro e w2 ⟨rfl, u2⟩
    go_wp2
    go_ret2
    exact retPes_nil (u1.trans u2)
  have HD := Lib.hid hd
  have HDP := Lib.hid (datB_true.1 hd)
  have h40 := HDP.out.1
  clear hd
  cases hp : prsB l.length ps
  · obtain ⟨q1, q2⟩ := HF.out (fun h => by have := prsB_true.2 h.2; rw [hp] at this; cases this)
    subst q1 q2
    have HP := Lib.hid hp; clear hp HF HT
    go_enter Try.func50, Try.ntmps50
    go_wp2_with fail
    refine (IsSchema_b true _ s _ HS.out H1.out HW.out).mono ?_
    rintro e w1 ⟨rfl, u1⟩
    go_wp2_with fail
    refine (isData_b true _ _ s l _ HD.out (H1.out.ext u1) (H2.out.ext u1)).mono ?_
    rintro e w2 ⟨rfl, u2⟩
    go_wp2_with fail
    refine (arePairs_b false _ ps l.length _ HP.out (H3.out.ext (u1.trans u2))).mono ?_
    rintro e w3 ⟨rfl, d3⟩
    go_wp2
    go_ret2
    exact retPes_nil ((u1.trans u2).trans (Drew.ext d3))
  have HP := Lib.hid hp
  have HPP := Lib.hid (prsB_true.1 hp)
  clear hp
  obtain ⟨q1, q2⟩ := HT.out ⟨⟨HSP.out, HDP.out⟩, HPP.out⟩
  rw [q1, q2]
  clear HF HT q1 q2
  have h20 := HPP.out.1
  go_enter Try.func50, Try.ntmps50
  go_wp2_with fail
  refine (IsSchema_b true _ s _ HS.out H1.out HW.out).mono ?_
  rintro e x1 ⟨rfl, y1⟩
  go_wp2_with fail
  refine (isData_b true _ _ s l _ HD.out (H1.out.ext y1) (H2.out.ext y1)).mono ?_
  rintro e x2 ⟨rfl, y2⟩
  go_wp2_with fail
  refine (arePairs_b true _ ps l.length _ HP.out (H3.out.ext (y1.trans y2))).mono ?_
  rintro e x3 ⟨rfl, d3⟩
  have y3 := (y1.trans y2).trans (Drew.ext d3)
  clear y1 y2 d3
  go_wp2_with fail
  refine (copyRecords_c _ l _ (H2.out.ext y3) ⟨by omega, fun k hk => by have := HDP.out.row HSP.out hk; omega, by have := pz_bound (M := 6) (fun k hk => (HDP.out.row HSP.out hk).2) l.length (Nat.le_refl _); omega⟩ (fun k hk e => by have := (HDP.out.row HSP.out hk).1; rw [e] at this; simp at this)).mono ?_
  rintro e w1 ⟨v', rvs, rfl, o1, u1⟩
  replace o1 := o1.mono (lo' := w.heap.size) y3.size (Nat.le_refl _)
  replace u1 := y3.trans u1
  clear y3
  obtain ⟨ao, cap, rfl, c1, c2, o1⟩ := o1
  have HO := Lib.hid o1; clear o1
  go_wp2
  go_loopw [33] (fun i wr => ∃ k : Nat, k ≤ ps.length ∧ i = .int .i64 k ∧ OwnPA 50 w.heap.size w1.heap.size wr ao rvs (applyTo l ps k) ∧ Ext w wr ∧ w1.heap.size ≤ wr.heap.size) (fun i _ => ps.length - (intOf i).toNat)
  case atStart => exact ⟨0, Nat.zero_le _, rfl, HO.out, u1, Nat.le_refl _⟩
  case round =>
    clear HO
    obtain ⟨k, hk, rfl, ho, hx, hsz⟩ := hrel
    obtain ⟨wo, rfl⟩ : ∃ wo : World, wo = wr := ⟨_, rfl⟩
    have HO := Lib.hid ho; clear ho
    by_cases hlt : k < ps.length
    · obtain ⟨b1, o1, ar, cr, rfl, hc, r1, r2, r3⟩ := G3.out.at_ hlt
      replace hc := Ext.cell hx hc
      obtain ⟨p, q, er, hpq, hq⟩ := pair_eq (HPP.out.2 k hlt)
      have hAL := applyTo_len l ps k
      have HAV := Lib.hid (applyTo_vals l ps k)
      have HAS : Hid (applyTo l ps (k + 1) = swapPe (applyTo l ps k) p q) := Lib.hid (by
        rw [applyTo, er]
        have e0 : ix [(p : Int), (q : Int)] 0 = p := rfl
        have e1 : ix [(p : Int), (q : Int)] 1 = q := rfl
        rw [e0, e1, Int.toNat_natCast, Int.toNat_natCast])
      obtain ⟨L, hL⟩ : ∃ L, applyTo l ps k = L := ⟨_, rfl⟩
      rw [hL] at HO hAL HAV HAS
      clear hL
      have HLL := Lib.hid hAL
      have hpL : p < L.length := by omega
      have hqL : q < L.length := by omega
      obtain ⟨r, hr⟩ : ∃ r, rowAt ps k = r := ⟨_, rfl⟩
      rw [hr] at hc r1 r3 er
      clear hr
      have hl2 : r.length = 2 := by rw [er]; rfl
      obtain ⟨bx, ox, rfl, hx0⟩ := r3 0 (by rw [hl2]; omega)
      obtain ⟨by', oy, e', hx1⟩ := r3 1 (by rw [hl2]; omega)
      simp only [Option.some.injEq, Addr.mk.injEq, and_true] at e'
      obtain ⟨rfl, rfl⟩ := e'
      have e0 : ix r 0 = p := by rw [er]; rfl
      have e1 : ix r 1 = q := by rw [er]; rfl
      rw [e0, Nat.add_zero] at hx0
      rw [e1] at hx1
      rw [hl2] at hc r1
      have hbx : bx < w.heap.size := World.block_lt_of_cell? w _ hx0
      replace hx0 := Ext.cell hx hx0
      replace hx1 := Ext.cell hx hx1
      clear e0 e1 hl2 er r3
      obtain ⟨b, o, rfl, l1, l2, l3, p0, p1, p2, f0, f1, f2⟩ := HO.out.at_ hpL
      obtain ⟨b', o', e', _, _, _, q0, q1, q2, f3, f4, f5⟩ := HO.out.at_ hqL
      simp only [Option.some.injEq, Addr.mk.injEq, and_true] at e'
      obtain ⟨rfl, rfl⟩ := e'
      obtain ⟨ap, cp, ep, _⟩ := HO.out.row p hpL
      obtain ⟨aq, cq, eq_, _⟩ := HO.out.row q hqL
      rw [ep] at p2
      rw [eq_] at q2
      have EP := Lib.hid ep; clear ep
      have EQ := Lib.hid eq_; clear eq_
      obtain ⟨A, hA⟩ : ∃ A, (peAt L p).area = A := ⟨_, rfl⟩
      obtain ⟨H, hH⟩ : ∃ A, (peAt L p).house = A := ⟨_, rfl⟩
      obtain ⟨n, hn⟩ : ∃ A, (peAt L p).vals.length = A := ⟨_, rfl⟩
      obtain ⟨A2', hA2⟩ : ∃ A, (peAt L q).area = A := ⟨_, rfl⟩
      obtain ⟨H2', hH2⟩ : ∃ A, (peAt L q).house = A := ⟨_, rfl⟩
      obtain ⟨n2, hn2⟩ : ∃ A, (peAt L q).vals.length = A := ⟨_, rfl⟩
      rw [hA] at p0
      rw [hH] at p1
      rw [hn] at p2 EP
      rw [hA2] at q0
      rw [hH2] at q1
      rw [hn2] at q2 EQ
      have HE := Lib.hid (And.intro hA (And.intro hH (And.intro hA2 hH2)))
      clear hA hH hn hA2 hH2 hn2
      have m1 : bx ≠ b := by omega
      have m2 : b ≠ bx := by omega
      have m3 : b ≠ wo.heap.size := by omega
      have m4 : b ≠ wo.heap.size + 1 := by omega
      have m5 : bx ≠ wo.heap.size := by omega
      have m6 : bx ≠ wo.heap.size + 1 := by omega
      have hL0 : L.length = l.length := hAL
      clear hAL
      have t0 : (0 : Int) ≤ (p : Int) := by omega
      have t1 : (p : Int) < (l.length : Int) := by omega
      have t2 : (0 : Int) ≤ (q : Int) := by omega
      have t3 : (q : Int) < (l.length : Int) := by omega
      go_upto_region 7 with fail
      go_cut [11, 12] from 37 to 73 (fun s8 s9 wx => ∃ A1 A2 : Nat, s8 = .pointer (some ⟨A1, 0, none⟩) ∧ s9 = .pointer (some ⟨A2, 0, none⟩) ∧ Box wx A1 50 #[.int .i64 A, .int .i64 H, .slice ap n cp] ∧ Box wx A2 50 #[.int .i64 A2', .int .i64 H2', .slice aq n2 cq] ∧ Ext wo wx ∧ wo.heap.size ≤ A1 ∧ wo.heap.size ≤ A2 ∧ A1 ≠ A2)
      case first =>
        have hx0a := fun X => Ext.cell ((Ext.refl wo).alloc X) hx0
        have hx0b := fun X Y => Ext.cell (((Ext.refl wo).alloc X).alloc Y) hx0
        have hx1a := fun X => Ext.cell ((Ext.refl wo).alloc X) hx1
        have hx1b := fun X Y => Ext.cell (((Ext.refl wo).alloc X).alloc Y) hx1
        have p0a := fun X => Ext.cell ((Ext.refl wo).alloc X) p0
        have p0b := fun X Y => Ext.cell (((Ext.refl wo).alloc X).alloc Y) p0
        have p1a := fun X => Ext.cell ((Ext.refl wo).alloc X) p1
        have p1b := fun X Y => Ext.cell (((Ext.refl wo).alloc X).alloc Y) p1
        have p2a := fun X => Ext.cell ((Ext.refl wo).alloc X) p2
        have p2b := fun X Y => Ext.cell (((Ext.refl wo).alloc X).alloc Y) p2
        have q0a := fun X => Ext.cell ((Ext.refl wo).alloc X) q0
        have q0b := fun X Y => Ext.cell (((Ext.refl wo).alloc X).alloc Y) q0
        have q1a := fun X => Ext.cell ((Ext.refl wo).alloc X) q1
        have q1b := fun X Y => Ext.cell (((Ext.refl wo).alloc X).alloc Y) q1
        have q2a := fun X => Ext.cell ((Ext.refl wo).alloc X) q2
        have q2b := fun X Y => Ext.cell (((Ext.refl wo).alloc X).alloc Y) q2
        go_wp2_with fail
        go_region
        all_goals (first | go_wp2_with fail | skip)
        all_goals go_meet
        · first
            | exact ⟨wo.heap.size, wo.heap.size + 1, rfl, rfl, ((Box.new wo 50 #[.int .i64 A, .int .i64 H, .slice ap n cp] rfl).alloc _).drew, (Box.new (wo.alloc _) 50 #[.int .i64 A2', .int .i64 H2', .slice aq n2 cq] (b := wo.heap.size + 1) (by simp)).drew, (((Ext.refl wo).alloc _).alloc _).drew, by omega, by omega, by omega⟩
            | exact ⟨wo.heap.size + 1, wo.heap.size, rfl, rfl, (Box.new (wo.alloc _) 50 #[.int .i64 A, .int .i64 H, .slice ap n cp] (b := wo.heap.size + 1) (by simp)).drew, ((Box.new wo 50 #[.int .i64 A2', .int .i64 H2', .slice aq n2 cq] rfl).alloc _).drew, (((Ext.refl wo).alloc _).alloc _).drew, by omega, by omega, by omega⟩
        · first
            | exact ⟨wo.heap.size, wo.heap.size + 1, rfl, rfl, ((Box.new wo 50 #[.int .i64 A, .int .i64 H, .slice ap n cp] rfl).alloc _).drew, (Box.new (wo.alloc _) 50 #[.int .i64 A2', .int .i64 H2', .slice aq n2 cq] (b := wo.heap.size + 1) (by simp)).drew, (((Ext.refl wo).alloc _).alloc _).drew, by omega, by omega, by omega⟩
            | exact ⟨wo.heap.size + 1, wo.heap.size, rfl, rfl, (Box.new (wo.alloc _) 50 #[.int .i64 A, .int .i64 H, .slice ap n cp] (b := wo.heap.size + 1) (by simp)).drew, ((Box.new wo 50 #[.int .i64 A2', .int .i64 H2', .slice aq n2 cq] rfl).alloc _).drew, (((Ext.refl wo).alloc _).alloc _).drew, by omega, by omega, by omega⟩
      case rest =>
        obtain ⟨A1, A2, rfl, rfl, b1_, b2_, hxc, hA1, hA2, hA12⟩ := hcut
        obtain ⟨wf, rfl⟩ : ∃ wm : World, wm = wc := ⟨_, rfl⟩
        have k0 := b1_.cell 0 (by simp)
        have k1 := b1_.cell 1 (by simp)
        have k2 := b1_.cell 2 (by simp)
        have j0 := b2_.cell 0 (by simp)
        have j1 := b2_.cell 1 (by simp)
        have j2 := b2_.cell 2 (by simp)
        have g0 := b1_.free 0
        have g1 := b2_.free 0
        have na1 : ¬ (A1 = A2) := hA12
        have na2 : ¬ (A2 = A1) := fun e => hA12 e.symm
        go_upto_region 8 with fail
        go_cut [] from 37 to 73 (fun wx => Box wx A1 50 #[.int .i64 A2', .int .i64 H, .slice ap n cp] ∧ Box wx A2 50 #[.int .i64 A, .int .i64 H2', .slice aq n2 cq] ∧ Ext wo wx)
        case first =>
          go_wp2_with fail
          all_goals go_meet
          exact ⟨(b1_.set 0 _).setOther (by simpa using na1) _, (b2_.setOther (by simpa using na2) _).set 0 _, (hxc.setCell (a := ⟨A1, 0, none⟩) _ hA1).setCell (a := ⟨A2, 0, none⟩) _ hA2⟩
        case rest =>
          clear b1_ b2_ hxc k0 k1 k2 j0 j1 j2 g0 g1
          obtain ⟨b1_, b2_, hxc⟩ := hcut
          obtain ⟨wg, rfl⟩ : ∃ wm : World, wm = wc := ⟨_, rfl⟩
          have k0 := b1_.cell 0 (by simp)
          have k1 := b1_.cell 1 (by simp)
          have k2 := b1_.cell 2 (by simp)
          have j0 := b2_.cell 0 (by simp)
          have j1 := b2_.cell 1 (by simp)
          have j2 := b2_.cell 2 (by simp)
          have g0 := b1_.free 1
          have g1 := b2_.free 1
          have na1 : ¬ (A1 = A2) := hA12
          have na2 : ¬ (A2 = A1) := fun e => hA12 e.symm
          go_upto_region 9 with fail
          go_cut [] from 37 to 73 (fun wx => Box wx A1 50 #[.int .i64 A2', .int .i64 H2', .slice ap n cp] ∧ Box wx A2 50 #[.int .i64 A, .int .i64 H, .slice aq n2 cq] ∧ Ext wo wx)
          case first =>
            go_wp2_with fail
            all_goals go_meet
            exact ⟨(b1_.set 1 _).setOther (by simpa using na1) _, (b2_.setOther (by simpa using na2) _).set 1 _, (hxc.setCell (a := ⟨A1, 1, none⟩) _ hA1).setCell (a := ⟨A2, 1, none⟩) _ hA2⟩
          case rest =>
            clear b1_ b2_ hxc k0 k1 k2 j0 j1 j2 g0 g1
            obtain ⟨b1_, b2_, hxc⟩ := hcut
            obtain ⟨wm, rfl⟩ : ∃ wm : World, wm = wc := ⟨_, rfl⟩
            have HOm := Lib.hid (HO.out.ext hxc)
            have hxm := hx.trans hxc
            have hszm := hxc.size
            replace hx0 := Ext.cell hxc hx0
            replace hx1 := Ext.cell hxc hx1
            clear p0 p1 p2 q0 q1 q2 f0 f1 f2 f3 f4 f5 HO m1 m2 m3 m4 m5 m6 hc
            obtain ⟨_, _, e', _, _, _, p0, p1, p2, f0, f1, f2⟩ := HOm.out.at_ hpL
            simp only [Option.some.injEq, Addr.mk.injEq, and_true] at e'
            obtain ⟨rfl, rfl⟩ := e'
            have k0 := b1_.cell 0 (by simp)
            have k1 := b1_.cell 1 (by simp)
            have k2 := b1_.cell 2 (by simp)
            have j0 := b2_.cell 0 (by simp)
            have j1 := b2_.cell 1 (by simp)
            have j2 := b2_.cell 2 (by simp)
            have hbx' : ¬ (bx = b) := by omega
            have hb1 : ¬ (A1 = b) := by omega
            have hb2 : ¬ (A2 = b) := by omega
            go_upto_region 10 with fail
            go_cut [] from 37 to 73 (fun wx => OwnPA 50 w.heap.size w1.heap.size wx (some ⟨b, o, none⟩) rvs (L.set p ⟨A2', H2', (peAt L p).vals⟩) ∧ Upd (fun c => c = b) wm wx)
            case first =>
              go_wp2_with fail
              go_region
              all_goals (first | go_wp2_with fail | skip)
              all_goals go_meet
              have h3 := (HOm.out.ext (Ext.refl wm).drew).put3 (by decide) hpL A2' H2'
              rw [EP.out] at h3
              exact ⟨h3, (Ext.refl wm).drew.then_upd ((((Upd.refl (S := fun c => c = b) wm.drew).setCell (a := ⟨b, o + p * 3, none⟩) _ (fun _ => rfl)).setCell (a := ⟨b, o + p * 3 + 1, none⟩) _ (fun _ => rfl)).setCell (a := ⟨b, o + p * 3 + 2, none⟩) _ (fun _ => rfl))⟩
            case rest =>
              obtain ⟨hO, hU⟩ := hcut
              obtain ⟨wn, rfl⟩ : ∃ wn : World, wn = wc := ⟨_, rfl⟩
              have HOn := Lib.hid hO; clear hO
              have HU := Lib.hid hU
              replace hx0 := hU.cell hx0 (by simpa using hbx')
              replace hx1 := hU.cell hx1 (by simpa using hbx')
              have b1n := b1_.upd hU hb1
              have b2n := b2_.upd hU hb2
              have hszn := hU.size
              clear p0 p1 p2 f0 f1 f2 k0 k1 k2 j0 j1 j2 hU
              have hvq : peAt (L.set p ⟨A2', H2', (peAt L p).vals⟩) q = peAt L q := by rw [peAt_set, if_neg (fun h => by omega)]
              have hlq : q < (L.set p ⟨A2', H2', (peAt L p).vals⟩).length := by simpa using hqL
              obtain ⟨L2, hL2⟩ : ∃ L2, L.set p ⟨A2', H2', (peAt L p).vals⟩ = L2 := ⟨_, rfl⟩
              rw [hL2] at HOn hvq hlq
              have HL2 := Lib.hid hL2; clear hL2
              obtain ⟨_, _, e', _, _, _, q0, q1, q2, f0, f1, f2⟩ := HOn.out.at_ hlq
              simp only [Option.some.injEq, Addr.mk.injEq, and_true] at e'
              obtain ⟨rfl, rfl⟩ := e'
              have HVQ := Lib.hid hvq; clear hvq
              have k0 := b1n.cell 0 (by simp)
              have k1 := b1n.cell 1 (by simp)
              have k2 := b1n.cell 2 (by simp)
              have j0 := b2n.cell 0 (by simp)
              have j1 := b2n.cell 1 (by simp)
              have j2 := b2n.cell 2 (by simp)
              go_wp2_with fail
              go_region
              go_wp2
              go_roundw
              case rel =>
                have h3 := (HOn.out.ext (Ext.refl wn).drew).put3 (by decide) hlq A H
                rw [EQ.out, HVQ.out, ← HL2.out] at h3
                have u3 := ((((Upd.refl (S := fun c => c = b) wn.drew).setCell (a := ⟨b, o + q * 3, none⟩) (.int .i64 A) (fun _ => rfl)).setCell (a := ⟨b, o + q * 3 + 1, none⟩) (.int .i64 H) (fun _ => rfl)).setCell (a := ⟨b, o + q * 3 + 2, none⟩) (.slice aq n2 cq) (fun _ => rfl))
                have ue := (hxm.of_upd HU.out (fun c hc => by omega)).drew.of_upd u3 (fun c hc => by omega)
                have hz := u3.size
                refine ⟨k + 1, by omega, by go_num, ?_, ue, ?_⟩
                · rw [HAS.out, swapPe, HE.out.1, HE.out.2.1, HE.out.2.2.1, HE.out.2.2.2]; exact h3
                · have hz' : w1.heap.size ≤ wn.drew.heap.size := by
                    have : w1.heap.size ≤ wn.heap.size := by omega
                    exact this
                  exact Nat.le_trans hz' hz
              case measure => simp [intOf]; omega
    · have hkl : k = ps.length := by omega
      have ho := HO.out
      rw [hkl] at ho
      have hal := applyTo_len l ps ps.length
      have hp : OwnP 50 w.heap.size wo.heap.size wo (.slice ao l.length cap) rvs (applyTo l ps ps.length) := ⟨ao, cap, by rw [hal], by omega, c2, ho.mono (Nat.le_refl _) hsz⟩
      have HPP2 := Lib.hid hp
      clear hp hal ho
      go_wp2
      go_ret2
      exact ⟨_, rvs, rfl, HPP2.out, hx⟩
end Go.Proofs.Ytkkoidoinbiikaa

