/- IsSwapPlan, the program's. -/
import Derived.Test.YtkkoidoinbiikaaUsd
import Derived.Test.YtkkoidoinbiikaaQext
namespace Go.Proofs.Ytkkoidoinbiikaa
open Go.RowKit

set_option maxRecDepth 100000 in
set_option maxHeartbeats 16000000 in
theorem implIsSwapPlan_c (v1 : Value) (s : List Vr) (v2 : Value) (l : List Pe) (v3 : Value) (vars : List Int) (v4 : Value) (ps : List (List Int)) (w : World) (h1 : Vrs w v1 s) (h2 : Pes w v2 l) (h3 : Ints w v3 vars) (h4 : Grid w v4 ps) (hw : WfV s) :
    Calls Try.prog 43 #[v1, v2, v3, v4] w fun e w' => e = .returned (.tuple #[.bool (ipV s l vars ps), .bool (ipB s l vars ps)]) ∧ Ext w w' := by
  have H1 := Lib.hid h1; clear h1
  have H2 := Lib.hid h2
  have H3 := Lib.hid h3; clear h3
  have H4 := Lib.hid h4
  have HW := Lib.hid hw; clear hw
  obtain ⟨a2, c2, rfl, e1, e2, g2⟩ := h2
  have G2 := Lib.hid g2; clear g2
  obtain ⟨a4, c4, rfl, e3, e4, g4⟩ := h4
  have G4 := Lib.hid g4; clear g4
  cases hi : inB s l vars
  · have HB : Hid (ipV s l vars ps = false ∧ ipB s l vars ps = false) := Lib.hid (by simp [ipV, ipB, hi])
    rw [HB.out.1, HB.out.2]
    have HI := Lib.hid hi; clear hi
    go_enter Try.func43, Try.ntmps43
    go_wp2_with fail
    refine (areKeyed_b false _ _ _ s l vars _ HI.out H1.out HW.out H2.out H3.out).mono ?_
    rintro e w1 ⟨rfl, u1⟩
    go_wp2
    go_ret2
    exact ⟨rfl, u1⟩
  have HI := Lib.hid hi
  have h40 := (inB_true.1 hi).2.1
  have HKO : Hid (∀ k, k < l.length → KeyOk s (peAt l k).vals vars) := Lib.hid (fun k hk => keyOk_of hi hk)
  have HF : Hid (¬ PlanP s l vars ps → ipV s l vars ps = false) := Lib.hid (fun h => by simp [ipV, h])
  have HT : Hid (PlanP s l vars ps → ipV s l vars ps = true) := Lib.hid (fun h => by simp [ipV, h, hi])
  have hB : ipB s l vars ps = true := hi
  rw [hB]
  clear hi hB
  obtain ⟨V, hV⟩ : ∃ V, ipV s l vars ps = V := ⟨_, rfl⟩
  rw [hV] at HF HT ⊢
  clear hV
  by_cases h20 : 20 < ps.length
  · have HB := Lib.hid (HF.out (fun h => by have := h.1.1; omega))
    rw [HB.out]
    go_enter Try.func43, Try.ntmps43
    go_wp2_with fail
    refine (areKeyed_b true _ _ _ s l vars _ HI.out H1.out HW.out H2.out H3.out).mono ?_
    rintro e w1 ⟨rfl, u1⟩
    go_wp2
    go_ret2
    exact ⟨rfl, u1⟩
  go_enter Try.func43, Try.ntmps43
  go_wp2_with fail
  refine (areKeyed_b true _ _ _ s l vars _ HI.out H1.out HW.out H2.out H3.out).mono ?_
  rintro e w1 ⟨rfl, u1⟩
  have u0 := u1
  have HUS0 : Hid (Used (w1.alloc (.cells (Array.replicate 40 (.bool false)) 94)) w1.heap.size []) := Lib.hid (Used.new w1)
  go_wp2
  go_loopw [23] (fun i wr => ∃ k : Nat, k ≤ ps.length ∧ i = .int .i64 k ∧ (∀ j, j < k → PrP l.length (rowAt ps j)) ∧ (∀ j, j < k → StepP s l vars ps j) ∧ Used wr w1.heap.size (usedTo ps k) ∧ Ext w1 wr) (fun i _ => ps.length - (intOf i).toNat)
  case atStart => exact ⟨0, Nat.zero_le _, rfl, (fun j hj => by omega), (fun j hj => by omega), by rw [usedTo_zero]; exact HUS0.out, (Ext.refl _).alloc _⟩
  case round =>
    clear HUS0
    obtain ⟨k, hk, rfl, hpj, hj, hus, hx⟩ := hrel
    obtain ⟨wo, rfl⟩ : ∃ wo : World, wo = wr := ⟨_, rfl⟩
    have HJ := Lib.hid hj; clear hj
    have HPJ := Lib.hid hpj; clear hpj
    have HUS := Lib.hid hus; clear hus
    have hxx := u1.trans hx
    by_cases hlt : k < ps.length
    · obtain ⟨b1, o1, ar, cr, rfl, hc, r1, r2, r3⟩ := (G4.out.ext u1).at_ hlt
      replace hc := Ext.cell hx hc
      have hfs : ¬ (PrP l.length (rowAt ps k) ∧ StepP s l vars ps k) → V = false := fun h => HF.out (fun q => h ⟨q.1.2 k hlt, q.2 k hlt⟩)
      have HFS := Lib.hid hfs; clear hfs
      have HI1 : Hid (Ints wo (.slice ar (rowAt ps k).length cr) (rowAt ps k)) := Lib.hid (Ints.ext (w := w1) ⟨ar, cr, rfl, r1, r2, r3⟩ hx)
      cases hp : prB l.length (rowAt ps k)
      · have HPR := Lib.hid hp
        have HB := Lib.hid (HFS.out (fun h => by have := prB_true.2 h.1; rw [hp] at this; cases this))
        clear hp r3
        obtain ⟨r, hr⟩ : ∃ r, rowAt ps k = r := ⟨_, rfl⟩
        rw [hr] at HPR HI1 hc r1
        clear hr
        go_wp2_with fail
        go_quiet ((go_at_call 79; exact Calls.quiet_of (isPair_b false _ r l.length _ HPR.out (HI1.out.drewN _))))
        go_wp2
        go_ret2
        exact ⟨ret_bools HB.out.symm rfl, hxx.drewN _⟩
      have HPRP := Lib.hid (prB_true.1 hp)
      obtain ⟨p, q, er, hpq, hq⟩ := pair_eq HPRP.out
      have HUSS : Hid (usedTo ps (k + 1) = usedTo ps k ++ [(p : Int), (q : Int)]) := Lib.hid (by rw [usedTo_succ hlt, er])
      have HST : Hid (StepP s l vars ps k ↔ canB s (peAt l p) (peAt l q) vars = true ∧ hasI (usedTo ps k) p = false ∧ hasI (usedTo ps k) q = false) := Lib.hid (by
        unfold StepP
        rw [er]
        have e0 : ix [(p : Int), (q : Int)] 0 = p := rfl
        have e1 : ix [(p : Int), (q : Int)] 1 = q := rfl
        rw [e0, e1, Int.toNat_natCast, Int.toNat_natCast])
      obtain ⟨r, hr⟩ : ∃ r, rowAt ps k = r := ⟨_, rfl⟩
      rw [hr] at hp HI1 hc r1 r3 er
      have HPR := Lib.hid hp; clear hp hr
      have hl2 : r.length = 2 := by rw [er]; rfl
      obtain ⟨bx, ox, rfl, hx0⟩ := r3 0 (by rw [hl2]; omega)
      obtain ⟨by', oy, e', hx1⟩ := r3 1 (by rw [hl2]; omega)
      simp only [Option.some.injEq, Addr.mk.injEq, and_true] at e'
      obtain ⟨rfl, rfl⟩ := e'
      have e0 : ix r 0 = p := by rw [er]; rfl
      have e1 : ix r 1 = q := by rw [er]; rfl
      rw [e0, Nat.add_zero] at hx0
      rw [e1] at hx1
      rw [hl2] at hc r1 HI1
      have hbx := World.block_lt_of_cell? w1 _ hx0
      replace hx0 := Ext.cell hx hx0
      replace hx1 := Ext.cell hx hx1
      clear e0 e1 hl2 er r3
      obtain ⟨b2, o2, ar1, cr1, rfl, c0, c1, c2, p1, p2, p3⟩ := (G2.out.ext hxx).at_ (k := p) (by omega)
      obtain ⟨b2', o2', ar2, cr2, e', d0, d1, d2, q1, q2, q3⟩ := (G2.out.ext hxx).at_ (k := q) hq
      simp only [Option.some.injEq, Addr.mk.injEq, and_true] at e'
      obtain ⟨rfl, rfl⟩ := e'
      have HP : Hid (PeR wo (.agg #[.int .i64 (peAt l p).area, .int .i64 (peAt l p).house, .slice ar1 (peAt l p).vals.length cr1]) (peAt l p)) := Lib.hid ⟨_, rfl, ar1, cr1, rfl, p1, p2, p3⟩
      have HQ : Hid (PeR wo (.agg #[.int .i64 (peAt l q).area, .int .i64 (peAt l q).house, .slice ar2 (peAt l q).vals.length cr2]) (peAt l q)) := Lib.hid ⟨_, rfl, ar2, cr2, rfl, q1, q2, q3⟩
      clear p3 q3
      have HKX := Lib.hid (HKO.out p (by omega))
      have HKY := Lib.hid (HKO.out q hq)
      obtain ⟨X, hX⟩ : ∃ X, peAt l p = X := ⟨_, rfl⟩
      obtain ⟨Y, hY⟩ : ∃ X, peAt l q = X := ⟨_, rfl⟩
      rw [hX] at HP HKX c0 c1 c2 p1 HST
      rw [hY] at HQ HKY d0 d1 d2 q1 HST
      obtain ⟨A, hA⟩ : ∃ A, X.area = A := ⟨_, rfl⟩
      obtain ⟨A2, hA2⟩ : ∃ A, Y.area = A := ⟨_, rfl⟩
      obtain ⟨B, hB⟩ : ∃ A, X.house = A := ⟨_, rfl⟩
      obtain ⟨B2, hB2⟩ : ∃ A, Y.house = A := ⟨_, rfl⟩
      obtain ⟨n1, hn1⟩ : ∃ n, X.vals.length = n := ⟨_, rfl⟩
      obtain ⟨n2, hn2⟩ : ∃ n, Y.vals.length = n := ⟨_, rfl⟩
      rw [hA, hB, hn1] at HP
      rw [hA2, hB2, hn2] at HQ
      rw [hA] at c0
      rw [hB] at c1
      rw [hn1] at c2 p1
      rw [hA2] at d0
      rw [hB2] at d1
      rw [hn2] at d2 q1
      clear hA hB hn1 hA2 hB2 hn2 hX hY
      have f0 := HUS.out.cell (i := p) (by omega)
      have f1 := HUS.out.cell (i := q) (by omega)
      obtain ⟨UP, hUP⟩ : ∃ U, hasI (usedTo ps k) (p : Int) = U := ⟨_, rfl⟩
      obtain ⟨UQ, hUQ⟩ : ∃ U, hasI (usedTo ps k) (q : Int) = U := ⟨_, rfl⟩
      rw [hUP] at f0 HST
      rw [hUQ] at f1 HST
      clear hUP hUQ
      have F0 : ∀ z : ExtOf wo, z.w.cell? ⟨bx, ox, none⟩ = some (.int .i64 p) := fun z => Ext.cell z.ext hx0
      have F1 : ∀ z : ExtOf wo, z.w.cell? ⟨bx, ox + 1, none⟩ = some (.int .i64 q) := fun z => Ext.cell z.ext hx1
      have F2 : ∀ z : ExtOf wo, z.w.cell? ⟨b2, o2 + p * 3, none⟩ = some (.int .i64 A) := fun z => Ext.cell z.ext c0
      have F3 : ∀ z : ExtOf wo, z.w.cell? ⟨b2, o2 + p * 3 + 1, none⟩ = some (.int .i64 B) := fun z => Ext.cell z.ext c1
      have F4 : ∀ z : ExtOf wo, z.w.cell? ⟨b2, o2 + p * 3 + 2, none⟩ = some (.slice ar1 n1 cr1) := fun z => Ext.cell z.ext c2
      have F5 : ∀ z : ExtOf wo, z.w.cell? ⟨b2, o2 + q * 3, none⟩ = some (.int .i64 A2) := fun z => Ext.cell z.ext d0
      have F6 : ∀ z : ExtOf wo, z.w.cell? ⟨b2, o2 + q * 3 + 1, none⟩ = some (.int .i64 B2) := fun z => Ext.cell z.ext d1
      have F7 : ∀ z : ExtOf wo, z.w.cell? ⟨b2, o2 + q * 3 + 2, none⟩ = some (.slice ar2 n2 cr2) := fun z => Ext.cell z.ext d2
      have F8 : ∀ z : ExtOf wo, z.w.cell? ⟨w1.heap.size, p, none⟩ = some (.bool UP) := fun z => Ext.cell z.ext f0
      have F9 : ∀ z : ExtOf wo, z.w.cell? ⟨w1.heap.size, q, none⟩ = some (.bool UQ) := fun z => Ext.cell z.ext f1
      have i0 : (0 : Int) ≤ (p : Int) := by omega
      have i1 : (p : Int) < (l.length : Int) := by omega
      have i2 : (0 : Int) ≤ (q : Int) := by omega
      have i3 : (q : Int) < (l.length : Int) := by omega
      have i4 : (p : Int) < 40 := by omega
      have i5 : (q : Int) < 40 := by omega
      cases hcn : canB s X Y vars
      · have HC := Lib.hid hcn
        have HB := Lib.hid (HFS.out (fun h => by have := (HST.out.1 h.2).1; rw [hcn] at this; cases this))
        clear hcn
        go_wp2_with fail
        refine wp_region_quiet_ext (by kernel_rfl) (by kernel_rfl) ?_
        repeat (quiet_step ((first
            | (go_at_call 80; exact calls_ext (canSwap_b false _ _ _ _ s X Y vars _ HC.out (H1.out.ext (hxx.trans (ExtOf.ext _))) (HP.out.ext (ExtOf.ext _)) (HQ.out.ext (ExtOf.ext _)) (H3.out.ext (hxx.trans (ExtOf.ext _))) HKX.out HKY.out))
            | (go_at_call 79; exact calls_ext_drew (isPair_b true _ r l.length _ HPR.out (HI1.out.ext (ExtOf.ext _)))))))
        refine wpQuiet_nil ?_
        intro _ hw'
        obtain ⟨⟨wq, uq⟩, hw''⟩ := hw'
        subst hw''
        go_wp2
        go_ret2
        exact ⟨ret_bools HB.out.symm rfl, hxx.trans uq⟩
      have HC := Lib.hid hcn
      cases UP
      · cases UQ
        · have HJ2 : Hid (∀ j, j < k + 1 → StepP s l vars ps j) := Lib.hid (fun j hj => by
            by_cases e : j = k
            · subst e; exact HST.out.2 ⟨hcn, rfl, rfl⟩
            · exact HJ.out j (by omega))
          have HPJ2 : Hid (∀ j, j < k + 1 → PrP l.length (rowAt ps j)) := Lib.hid (fun j hj => by
            by_cases e : j = k
            · subst e; exact HPRP.out
            · exact HPJ.out j (by omega))
          clear hcn
          go_wp2_with fail
          refine wp_region_quiet_ext (by kernel_rfl) (by kernel_rfl) ?_
          repeat (quiet_step ((first
              | (go_at_call 80; exact calls_ext (canSwap_b true _ _ _ _ s X Y vars _ HC.out (H1.out.ext (hxx.trans (ExtOf.ext _))) (HP.out.ext (ExtOf.ext _)) (HQ.out.ext (ExtOf.ext _)) (H3.out.ext (hxx.trans (ExtOf.ext _))) HKX.out HKY.out))
              | (go_at_call 79; exact calls_ext_drew (isPair_b true _ r l.length _ HPR.out (HI1.out.ext (ExtOf.ext _)))))))
          refine wpQuiet_nil ?_
          intro _ hw'
          obtain ⟨⟨wq, uq⟩, hw''⟩ := hw'
          subst hw''
          have g0 := Ext.cell uq hx0
          have g1 := Ext.cell uq hx1
          have u5 := uq
          have US4 := Lib.hid (HUS.out.ext u5)
          have j0 := US4.out.cell (i := p) (by omega)
          have j1 := US4.out.cell (i := q) (by omega)
          have fr0 := US4.out.free p
          have fr1 := US4.out.free q
          have hbne : bx ≠ w1.heap.size := by have hbx' : bx < w1.heap.size := hbx; omega
          have hbne2 : w1.heap.size ≠ bx := fun e => hbne e.symm
          go_wp2_with go_region
          all_goals go_roundw
          case rel => exact ⟨k + 1, by omega, by go_num, HPJ2.out, HJ2.out, by rw [HUSS.out, show usedTo ps k ++ [(p : Int), (q : Int)] = (usedTo ps k ++ [(p : Int)]) ++ [(q : Int)] by simp]; exact ((US4.out.drew).set (by omega)).set (by omega), ((hx.trans u5).drew.setCell _ (by simp)).setCell _ (by simp)⟩
          case measure => simp [intOf]; omega
        · have HB := Lib.hid (HFS.out (fun h => by have := (HST.out.1 h.2).2.2; cases this))
          clear hcn
          go_wp2_with fail
          refine wp_region_quiet_ext (by kernel_rfl) (by kernel_rfl) ?_
          repeat (quiet_step ((first
              | (go_at_call 80; exact calls_ext (canSwap_b true _ _ _ _ s X Y vars _ HC.out (H1.out.ext (hxx.trans (ExtOf.ext _))) (HP.out.ext (ExtOf.ext _)) (HQ.out.ext (ExtOf.ext _)) (H3.out.ext (hxx.trans (ExtOf.ext _))) HKX.out HKY.out))
              | (go_at_call 79; exact calls_ext_drew (isPair_b true _ r l.length _ HPR.out (HI1.out.ext (ExtOf.ext _)))))))
          refine wpQuiet_nil ?_
          intro _ hw'
          obtain ⟨⟨wq, uq⟩, hw''⟩ := hw'
          subst hw''
          go_wp2
          go_ret2
          exact ⟨ret_bools HB.out.symm rfl, hxx.trans uq⟩
      · have HB := Lib.hid (HFS.out (fun h => by have := (HST.out.1 h.2).2.1; cases this))
        clear hcn
        go_wp2_with fail
        refine wp_region_quiet_ext (by kernel_rfl) (by kernel_rfl) ?_
        repeat (quiet_step ((first
            | (go_at_call 80; exact calls_ext (canSwap_b true _ _ _ _ s X Y vars _ HC.out (H1.out.ext (hxx.trans (ExtOf.ext _))) (HP.out.ext (ExtOf.ext _)) (HQ.out.ext (ExtOf.ext _)) (H3.out.ext (hxx.trans (ExtOf.ext _))) HKX.out HKY.out))
            | (go_at_call 79; exact calls_ext_drew (isPair_b true _ r l.length _ HPR.out (HI1.out.ext (ExtOf.ext _)))))))
        refine wpQuiet_nil ?_
        intro _ hw'
        obtain ⟨⟨wq, uq⟩, hw''⟩ := hw'
        subst hw''
        go_wp2
        go_ret2
        exact ⟨ret_bools HB.out.symm rfl, hxx.trans uq⟩
    · have HB := Lib.hid (HT.out ⟨⟨by omega, fun j hj => HPJ.out j (by omega)⟩, fun j hj => HJ.out j (by omega)⟩)
      go_wp2
      go_ret2
      exact ⟨ret_bools HB.out.symm rfl, hxx⟩
end Go.Proofs.Ytkkoidoinbiikaa

