/- KeepsCounts, the spec's. -/
import Derived.Test.YtedkhopclgjicaaKeepP
import Derived.Test.YtedkhopclgjicaaQext
namespace Go.Proofs.Ytedkhopclgjicaa
open Go.RowKit

set_option maxHeartbeats 3200000 in
theorem swCount_c (v1 v2 v3 : Value) (s : List Vr) (l : List Pe) (vars : List Int) (ar key : Int) (w : World) (h1 : Vrs w v1 s) (h2 : Pes w v2 l) (h3 : Ints w v3 vars) (_ : l.length ≤ 40) (hko : ∀ k, k < l.length → KeyOk s (peAt l k).vals vars) :
    Calls Try.prog 19 #[v1, v2, v3, .int .i64 ar, .int .i64 key] w fun e w' => e = .returned (.int .i64 (kcnt s l vars ar key l.length)) ∧ Ext w w' := by
  have H1 := Lib.hid h1; clear h1
  have H3 := Lib.hid h3; clear h3
  obtain ⟨a2, c2, rfl, e1, e2, g2⟩ := h2
  have G2 := Lib.hid g2; clear g2
  have HKO := Lib.hid hko; clear hko
  go_enter Try.func19, Try.ntmps19
  go_wp2
  go_loopw [11, 16] (fun c i wr => ∃ n : Nat, n ≤ l.length ∧ i = .int .i64 n ∧ c = .int .i64 (kcnt s l vars ar key n) ∧ Ext w wr) (fun _ i _ => l.length - (intOf i).toNat)
  case atStart => exact ⟨0, Nat.zero_le _, rfl, rfl, Ext.refl _⟩
  case round =>
    obtain ⟨n, hn, rfl, rfl, hx⟩ := hrel
    obtain ⟨wo, rfl⟩ : ∃ wo : World, wo = wr := ⟨_, rfl⟩
    have hcl := kcnt_le s l vars ar key n
    by_cases hlt : n < l.length
    · obtain ⟨b, o, av, cr, rfl, hc0, hc1, hc2, r1, r2, r3⟩ := (G2.out.ext hx).at_ hlt
      have HI : Hid (Ints wo (.slice av (peAt l n).vals.length cr) (peAt l n).vals) := Lib.hid ⟨av, cr, rfl, r1, r2, r3⟩
      clear r3
      obtain ⟨c, hc⟩ : ∃ c, kcnt s l vars ar key n = c := ⟨_, rfl⟩
      obtain ⟨A, hA⟩ : ∃ A, (peAt l n).area = A := ⟨_, rfl⟩
      obtain ⟨K, hK⟩ : ∃ K, kAt s l vars n = K := ⟨_, rfl⟩
      have HK : Hid (keyL s (peAt l n).vals vars = K) := Lib.hid hK
      have ub := (Ext.refl wo).alloc (.cells #[.int .i64 A, .int .i64 (peAt l n).house, .slice av (peAt l n).vals.length cr] 46)
      by_cases ha : A = ar
      · by_cases hk : K = key
        · have HS : Hid (kcnt s l vars ar key (n + 1) = c + 1) := Lib.hid (by rw [kcnt_yes ⟨hA.trans ha, hK.trans hk⟩, hc])
          rw [hc] at hcl ⊢
          rw [hA] at hc0
          clear hc hK hA
          subst ha hk
          go_wp2_with fail
          refine (swKey_c _ _ _ s (peAt l n).vals vars _ (H1.out.ext (hx.trans ub)) (HI.out.ext ub) (H3.out.ext (hx.trans ub)) (HKO.out n hlt)).mono ?_
          rw [HK.out]
          rintro e w1 ⟨rfl, u1⟩
          go_wp2
          go_roundw
          case rel => exact ⟨n + 1, by omega, by go_num, by rw [HS.out]; go_num, (hx.trans ub).trans u1⟩
          case measure => simp [intOf]; omega
        · have HS : Hid (kcnt s l vars ar key (n + 1) = c) := Lib.hid (by rw [kcnt_no (fun h => hk (hK.symm.trans h.2)), hc])
          rw [hc] at hcl ⊢
          rw [hA] at hc0
          clear hc hK hA
          subst ha
          have heq : (K == key) = false := by simp [hk]
          clear hk
          go_wp2_with fail
          refine (swKey_c _ _ _ s (peAt l n).vals vars _ (H1.out.ext (hx.trans ub)) (HI.out.ext ub) (H3.out.ext (hx.trans ub)) (HKO.out n hlt)).mono ?_
          rw [HK.out]
          rintro e w1 ⟨rfl, u1⟩
          go_wp2
          go_roundw
          case rel => exact ⟨n + 1, by omega, by go_num, by rw [HS.out], (hx.trans ub).trans u1⟩
          case measure => simp [intOf]; omega
      · have HS : Hid (kcnt s l vars ar key (n + 1) = c) := Lib.hid (by rw [kcnt_no (fun h => ha (hA.symm.trans h.1)), hc])
        rw [hc] at hcl ⊢
        rw [hA] at hc0
        clear hc hK hA
        have heq : (A == ar) = false := by simp [ha]
        clear ha
        go_wp2
        go_roundw
        case rel => exact ⟨n + 1, by omega, by go_num, by rw [HS.out], hx.trans ub⟩
        case measure => simp [intOf]; omega
    · have hnl : n = l.length := by omega
      subst hnl
      go_wp2
      go_ret
      exact ⟨rfl, hx⟩
theorem swCount_k (c : Nat) (v1 v2 v3 : Value) (s : List Vr) (l : List Pe) (vars : List Int) (ar key : Int) (w : World) (hc : kcnt s l vars ar key l.length = c) (h1 : Vrs w v1 s) (h2 : Pes w v2 l) (h3 : Ints w v3 vars) (h40 : l.length ≤ 40) (hko : ∀ k, k < l.length → KeyOk s (peAt l k).vals vars) :
    Calls Try.prog 19 #[v1, v2, v3, .int .i64 ar, .int .i64 key] w fun e w' => e = .returned (.int .i64 c) ∧ Ext w w' := by
  subst hc; exact swCount_c v1 v2 v3 s l vars ar key w h1 h2 h3 h40 hko
set_option maxRecDepth 100000 in
set_option maxHeartbeats 3200000 in
theorem specKeepsCounts_c (v1 : Value) (s : List Vr) (v2 : Value) (a : List Pe) (v3 : Value) (b : List Pe) (v4 : Value) (vars : List Int) (w : World) (h1 : Vrs w v1 s) (h2 : Pes w v2 a) (h3 : Pes w v3 b) (h4 : Ints w v4 vars) (hw : WfV s) :
    Calls Try.prog 6 #[v1, v2, v3, v4] w fun e w' => e = .returned (.tuple #[.bool (kcV s a b vars), .bool (kcB s a b vars)]) ∧ Ext w w' := by
  have H1 := Lib.hid h1; clear h1
  have H2 := Lib.hid h2; clear h2
  have H3 := Lib.hid h3; clear h3
  have H4 := Lib.hid h4; clear h4
  have HW := Lib.hid hw; clear hw
  cases hi : inB s a vars
  · have HB : Hid (kcV s a b vars = false ∧ kcB s a b vars = false) := Lib.hid (by simp [kcV, kcB, hi])
    rw [HB.out.1, HB.out.2]
    have HI := Lib.hid hi; clear hi
    go_enter Try.func6, Try.ntmps6
    go_wp2_with fail
    refine (swInput_b false _ _ _ s a vars _ HI.out H1.out HW.out H2.out H4.out).mono ?_
    rintro e w1 ⟨rfl, u1⟩
    go_wp2
    go_ret2
    exact ⟨rfl, u1⟩
  cases hb : datB s b
  · have HB : Hid (kcV s a b vars = false ∧ kcB s a b vars = false) := Lib.hid (by simp [kcV, kcB, hb])
    rw [HB.out.1, HB.out.2]
    have HI := Lib.hid hi
    have HS := Lib.hid (inB_true.1 hi).1.1; clear hi
    have HD := Lib.hid hb; clear hb
    go_enter Try.func6, Try.ntmps6
    go_wp2_with fail
    refine (swInput_b true _ _ _ s a vars _ HI.out H1.out HW.out H2.out H4.out).mono ?_
    rintro e w1 ⟨rfl, u1⟩
    go_wp2_with fail
    refine (dGood_b false _ _ s b _ HD.out (H1.out.ext u1) HS.out (H3.out.ext u1)).mono ?_
    rintro e w2 ⟨rfl, u2⟩
    go_wp2
    go_ret2
    exact ⟨rfl, u1.trans u2⟩
  have HB : Hid (kcB s a b vars = true) := Lib.hid (by simp [kcB, hi, hb])
  have hib := in_other hi hb
  have ha40 := (inB_true.1 hi).2.1
  have hb40 := (inB_true.1 hib).2.1
  have HKA : Hid (∀ k, k < a.length → KeyOk s (peAt a k).vals vars) := Lib.hid (fun k hk => keyOk_of hi hk)
  have HKB : Hid (∀ k, k < b.length → KeyOk s (peAt b k).vals vars) := Lib.hid (fun k hk => keyOk_of hib hk)
  have HKX : Hid (∀ k, k < (a ++ b).length → KeyOk s (peAt (a ++ b) k).vals vars) := Lib.hid (fun k hk => by
    by_cases hka : k < a.length
    · rw [peAt_left hka]; exact HKA.out k hka
    · obtain ⟨j, rfl⟩ : ∃ j, k = a.length + j := ⟨k - a.length, by omega⟩
      rw [peAt_right]; exact HKB.out j (by simp at hk; omega))
  have HYes : Hid ((∀ i, i < (a ++ b).length → BalAt s a b vars i) → kcV s a b vars = true) := Lib.hid (fun h => by simp [kcV, hi, hb, bal_of h])
  have HNo : Hid (∀ i, i < (a ++ b).length → ¬ BalAt s a b vars i → kcV s a b vars = false) := Lib.hid (fun i _ h => by
    have : ¬ Bal s a b vars := fun h2 => h (bal_at h2 i)
    simp [kcV, this])
  obtain ⟨V, hV⟩ : ∃ V, kcV s a b vars = V := ⟨_, rfl⟩
  rw [HB.out]
  rw [hV] at HYes HNo ⊢
  clear hV hib
  have HI := Lib.hid hi
  have HS := Lib.hid (inB_true.1 hi).1.1; clear hi
  have HD := Lib.hid hb; clear hb
  have hxl : (a ++ b).length = a.length + b.length := by simp
  have n3 : (Value.slice none 0 0).ownBlock = none := rfl
  go_enter Try.func6, Try.ntmps6
  go_wp2_with fail
  refine (swInput_b true _ _ _ s a vars _ HI.out H1.out HW.out H2.out H4.out).mono ?_
  rintro e w1 ⟨rfl, u1⟩
  go_wp2_with fail
  refine (dGood_b true _ _ s b _ HD.out (H1.out.ext u1) HS.out (H3.out.ext u1)).mono ?_
  rintro e w2 ⟨rfl, u2⟩
  have ux := u1.trans u2
  clear u1 u2
  have um := (Ext.refl w2).alloc (.cells #[] 46)
  have HM := Lib.hid (RRow.made w2 w2)
  have HA := Lib.hid (H2.out.ext ux)
  have HBb := Lib.hid (H3.out.ext ux)
  go_wp2_with (at_builtin; go_loud (refine appP _ rfl _ _ rfl w2.heap.size _ [] [] rfl w2 HM.out _ a rfl HA.out um (by simp; omega) (by simp) ?_))
  intro va ra w3 hra hg3
  have x3 : Ext w2 w3 := um.of_upd (Upd.of_grown hg3) (fun b hb => by simp [Value.ownBlock] at hb; omega)
  have HRA := Lib.hid hra
  have hoa : ∀ g, va.ownBlock = some g → w2.heap.size ≤ g := fun g hg => (World.ownsRow.lt hra.own g hg).1
  have HOA := Lib.hid hoa
  clear hra hg3 hoa
  go_wp2_with (at_builtin; go_loud (refine appP _ rfl _ _ rfl w2.heap.size _ ra a rfl w2 HRA.out _ b rfl HBb.out x3 (by omega) x3.size ?_))
  intro vb rb w4 hrb hg4
  have x4 : Ext w2 w4 := x3.of_upd (Upd.of_grown hg4) (fun b hb => HOA.out b hb)
  obtain ⟨a5, c5, rfl⟩ := hrb.form
  have hrd := hrb.read x4
  clear hrb hg4
  obtain ⟨L, hL⟩ : ∃ L, a ++ b = L := ⟨_, rfl⟩
  rw [hL] at hrd hxl HKX HYes HNo ⊢
  have HL := Lib.hid hL; clear hL
  obtain ⟨a6, c6, e6, p1, p2, p3⟩ := hrd
  simp only [Value.slice.injEq] at e6
  obtain ⟨rfl, _, rfl⟩ := e6
  have GX := Lib.hid p3; clear p3
  have ux4 := ux.trans x4
  have hL80 : L.length ≤ 80 := by omega
  clear hxl
  clear HRA HOA HM um x3
  go_wp2
  go_loopw [30] (fun i wr => ∃ n : Nat, n ≤ L.length ∧ i = .int .i64 n ∧ (∀ j, j < n → BalAt s a b vars j) ∧ Ext w4 wr) (fun i _ => L.length - (intOf i).toNat)
  case atStart => exact ⟨0, Nat.zero_le _, rfl, fun j hj => by omega, Ext.refl _⟩
  case round =>
    obtain ⟨n, hn, rfl, hbal, hx⟩ := hrel
    have HBL := Lib.hid hbal; clear hbal
    obtain ⟨wo, rfl⟩ : ∃ wo : World, wo = wr := ⟨_, rfl⟩
    by_cases hlt : n < L.length
    · obtain ⟨b', o, av, cr, rfl, hc0, hc1, hc2, r1, r2, r3⟩ := (GX.out.ext hx).at_ hlt
      have HI9 : Hid (Ints wo (.slice av (peAt L n).vals.length cr) (peAt L n).vals) := Lib.hid ⟨av, cr, rfl, r1, r2, r3⟩
      clear r3
      obtain ⟨A, hA⟩ : ∃ A, (peAt L n).area = A := ⟨_, rfl⟩
      obtain ⟨K, hK⟩ : ∃ K, kAt s L vars n = K := ⟨_, rfl⟩
      have HK : Hid (keyL s (peAt L n).vals vars = K) := Lib.hid hK
      have HBA : Hid (BalAt s a b vars n ↔ kcnt s a vars A K a.length = kcnt s b vars A K b.length) := Lib.hid (by unfold BalAt; rw [HL.out, hA, hK])
      rw [hA] at hc0
      clear hA hK
      have ub := (Ext.refl wo).alloc (.cells #[.int .i64 A, .int .i64 (peAt L n).house, .slice av (peAt L n).vals.length cr] 46)
      have bx := Box.new wo 46 #[.int .i64 A, .int .i64 (peAt L n).house, .slice av (peAt L n).vals.length cr] rfl
      have hxb := ux4.trans (hx.trans ub)
      go_wp2_with fail
      refine (swKey_c _ _ _ s (peAt L n).vals vars _ (H1.out.ext hxb) (HI9.out.ext ub) (H4.out.ext hxb) (HKX.out n hlt)).mono ?_
      rw [HK.out]
      rintro e w5 ⟨rfl, u5⟩
      have bx5 := bx.ext u5
      have k0 : ∀ z : ExtOf w5, z.w.cell? ⟨wo.heap.size, 0, none⟩ = some (.int .i64 A) := fun z => (bx5.ext z.ext).cell 0 (by simp)
      have hx5 := hxb.trans u5
      have G1 : Hid (∀ z : ExtOf w5, Vrs z.w v1 s ∧ Pes z.w v2 a ∧ Pes z.w v3 b ∧ Ints z.w v4 vars) := Lib.hid (fun z => ⟨H1.out.ext (hx5.trans z.ext), H2.out.ext (hx5.trans z.ext), H3.out.ext (hx5.trans z.ext), H4.out.ext (hx5.trans z.ext)⟩)
      obtain ⟨ca, hca⟩ : ∃ c, kcnt s a vars A K a.length = c := ⟨_, rfl⟩
      obtain ⟨cb, hcb⟩ : ∃ c, kcnt s b vars A K b.length = c := ⟨_, rfl⟩
      rw [hca, hcb] at HBA
      have HCA := Lib.hid hca; clear hca
      have HCB := Lib.hid hcb; clear hcb
      clear bx bx5
      by_cases he : ca = cb
      · have hne : ((ca : Int) != (cb : Int)) = false := by simp [he]
        have HY := Lib.hid (HBA.out.2 he)
        clear he
        go_wp2_with fail
        refine wp_region_quiet_ext (by kernel_rfl) (by kernel_rfl) ?_
        repeat (quiet_step ((first
            | (go_at_call 19; exact calls_ext (swCount_k ca _ _ _ s a vars A K _ HCA.out (G1.out _).1 (G1.out _).2.1 (G1.out _).2.2.2 ha40 HKA.out))
            | (go_at_call 19; exact calls_ext (swCount_k cb _ _ _ s b vars A K _ HCB.out (G1.out _).1 (G1.out _).2.2.1 (G1.out _).2.2.2 hb40 HKB.out)))))
        refine wpQuiet_nil ?_
        intro _ hw'
        obtain ⟨⟨wq, uq⟩, hw''⟩ := hw'
        subst hw''
        go_wp2
        go_roundw
        case rel => exact ⟨n + 1, by omega, by go_num, fun j hj => by
          by_cases e : j = n
          · rw [e]; exact HY.out
          · exact HBL.out j (by omega), ((hx.trans ub).trans u5).trans uq⟩
        case measure => simp [intOf]; omega
      · have hne : ((ca : Int) != (cb : Int)) = true := by simp; omega
        have HY := Lib.hid (fun h => he (HBA.out.1 h))
        clear he
        have HV := Lib.hid (HNo.out n hlt HY.out)
        go_wp2_with fail
        refine wp_region_quiet_ext (by kernel_rfl) (by kernel_rfl) ?_
        repeat (quiet_step ((first
            | (go_at_call 19; exact calls_ext (swCount_k ca _ _ _ s a vars A K _ HCA.out (G1.out _).1 (G1.out _).2.1 (G1.out _).2.2.2 ha40 HKA.out))
            | (go_at_call 19; exact calls_ext (swCount_k cb _ _ _ s b vars A K _ HCB.out (G1.out _).1 (G1.out _).2.2.1 (G1.out _).2.2.2 hb40 HKB.out)))))
        refine wpQuiet_nil ?_
        intro _ hw'
        obtain ⟨⟨wq, uq⟩, hw''⟩ := hw'
        subst hw''
        go_wp2
        go_ret2
        exact ⟨ret_bools HV.out.symm rfl, hx5.trans uq⟩
    · have hnl : n = L.length := by omega
      have HV := Lib.hid (HYes.out (fun i hi => HBL.out i (by omega)))
      go_wp2
      go_ret2
      exact ⟨ret_bools HV.out.symm rfl, ux4.trans hx⟩
end Go.Proofs.Ytedkhopclgjicaa
