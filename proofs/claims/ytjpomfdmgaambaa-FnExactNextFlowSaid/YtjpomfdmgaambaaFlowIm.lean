/- IsFlow, the program's. -/
import Derived.Test.YtjpomfdmgaambaaFlowOk
import Derived.Deep.RegionHeld3
import Derived.Deep.RegionWith
namespace Go.Proofs.Ytjpomfdmgaambaa
open Go.RowKit

set_option maxHeartbeats 3200000 in
theorem implIsFlow_c (v : Value) (T : Tr) (v2 : Value) (x : List (List Int)) (w : World) (h : TrR w v T) (h2 : Grid w v2 x) :
    Calls Try.prog 33 #[v, v2] w fun e w' => e = .returned (.tuple #[.bool (trB T && flowB T x), .bool (trB T)]) ∧ Ext w w' := by
  have H := Lib.hid h
  have HX := Lib.hid h2
  obtain ⟨a0, c0, a1, c1, a2, c2, a3, c3, rfl, n0, n1, n2, n3⟩ := h.form
  clear h
  obtain ⟨ax, cx, rfl, p1, p2, p3⟩ := h2
  have GX := Lib.hid p3; clear p3
  have u0 := (Ext.refl w).alloc (.cells #[.slice a0 T.rows.length c0, .slice a1 T.cols.length c1, .slice a2 T.lo.length c2, .slice a3 T.hi.length c3] 30)
  have b0 := Box.new w 30 #[.slice a0 T.rows.length c0, .slice a1 T.cols.length c1, .slice a2 T.lo.length c2, .slice a3 T.hi.length c3] rfl
  have k0 := b0.cell 0 (by simp)
  have k1 := b0.cell 1 (by simp)
  have k2 := b0.cell 2 (by simp)
  have k3 := b0.cell 3 (by simp)
  cases ht : trB T
  · have HT := Lib.hid ht; clear ht
    go_enter Try.func33, Try.ntmps33
    go_wp2_with fail
    refine (implIsTransport_b false _ T _ HT.out (H.out.ext u0)).mono ?_
    rintro e w1 ⟨rfl, u1⟩
    go_wp2
    go_ret2
    exact ⟨by simp, u0.trans u1⟩
  have HT := Lib.hid ht; clear ht
  have HO := Lib.hid (trB_true.1 HT.out)
  have no : ¬ FlowOk T x → flowB T x = false := flowB_false
  have NO := Lib.hid no; clear no
  cases s1 : shapeB T.rows.length T.cols.length x
  · have hr := NO.out (fun hh => by have := hh.1; rw [s1] at this; cases this)
    have HR := Lib.hid hr; clear hr
    have S1 := Lib.hid s1; clear s1
    go_enter Try.func33, Try.ntmps33
    go_wp2_with fail
    refine (implIsTransport_b true _ T _ HT.out (H.out.ext u0)).mono ?_
    rintro e w1 ⟨rfl, u1⟩
    have b1 := b0.ext u1
    have l0 := b1.cell 0 (by simp)
    have l1 := b1.cell 1 (by simp)
    go_wp2_with fail
    refine (hasShape_b false _ x _ _ _ S1.out (HX.out.ext (u0.trans u1))).mono ?_
    rintro e w1 ⟨rfl, rfl⟩
    go_wp2
    go_ret2
    exact ⟨by rw [HR.out]; rfl, u0.trans u1⟩
  have S1 := Lib.hid s1; clear s1
  have hsh := shapeB_true.1 S1.out
  have hd := HO.out.dims
  have hxl : x.length = T.rows.length := by omega
  have HXL := Lib.hid hxl; clear hxl
  have HSH : Hid (∀ i, i < x.length → (rowAt x i).length = T.cols.length) := Lib.hid (fun i hi => by have := hsh.2 i hi; omega)
  clear hsh
  have HDM := Lib.hid hd; clear hd
  go_enter Try.func33, Try.ntmps33
  go_wp2_with fail
  refine (implIsTransport_b true _ T _ HT.out (H.out.ext u0)).mono ?_
  rintro e w1 ⟨rfl, u1⟩
  have b1 := b0.ext u1
  have v1 := u0.trans u1
  have l0 := b1.cell 0 (by simp)
  have l1 := b1.cell 1 (by simp)
  have l2 := b1.cell 2 (by simp)
  have l3 := b1.cell 3 (by simp)
  go_wp2_with fail
  refine (hasShape_b true _ x _ _ _ S1.out (HX.out.ext (u0.trans u1))).mono ?_
  rintro e w1 ⟨rfl, rfl⟩
  have g2 : GridA w1 a2 T.lo := by
    obtain ⟨_, _, e, _, _, g⟩ := H.out.f2.ext v1
    cases e; exact g
  have g3 : GridA w1 a3 T.hi := by
    obtain ⟨_, _, e, _, _, g⟩ := H.out.f3.ext v1
    cases e; exact g
  have G2 := Lib.hid g2; clear g2
  have G3 := Lib.hid g3; clear g3
  have GX1 := Lib.hid (GX.out.ext v1)
  go_wp2
  go_loop [24] (fun i => ∃ k : Nat, k ≤ x.length ∧ i = .int .i64 k ∧ (∀ i', i' < k → (∀ j, j < (rowAt x i').length → fitsP T x i' j))) (fun i => x.length - (intOf i).toNat)
  case atStart => exact ⟨0, Nat.zero_le _, rfl, fun i hi => by omega⟩
  case round =>
    obtain ⟨k, hk, rfl, hj⟩ := hrel
    have HJ := Lib.hid hj; clear hj
    by_cases hlt : k < x.length
    · have hkr : k < T.rows.length := by have := HXL.out; omega
      have hkl : k < T.lo.length := by have := HDM.out; omega
      have hkh : k < T.hi.length := by have := HDM.out; omega
      obtain ⟨bx, ox, axx, cxx, rfl, hcx, x1_, x2_, x3_⟩ := GX1.out.at_ hlt
      obtain ⟨bl, ol, al, cl, rfl, hcl, l1_, l2_, l3_⟩ := G2.out.at_ hkl
      obtain ⟨bh, oh, ah, ch, rfl, hch, h1_, h2_, h3_⟩ := G3.out.at_ hkh
      have X3 := Lib.hid x3_; clear x3_
      have L3 := Lib.hid l3_; clear l3_
      have H3 := Lib.hid h3_; clear h3_
      have hrl := HO.out.rowlen hkr
      have hxk := HSH.out k hlt
      have HRL := Lib.hid (And.intro hrl hxk); clear hrl hxk
      go_wp2
      go_loop [31] (fun i => ∃ l : Nat, l ≤ (rowAt x k).length ∧ i = .int .i64 l ∧ (∀ j, j < l → fitsP T x k j)) (fun i => (rowAt x k).length - (intOf i).toNat)
      case atStart => exact ⟨0, Nat.zero_le _, rfl, fun i hi => by omega⟩
      case round =>
        obtain ⟨l, hl, rfl, hjj⟩ := hrel
        have HJJ := Lib.hid hjj; clear hjj
        by_cases hlt2 : l < (rowAt x k).length
        · have hll : l < (rowAt T.lo k).length := by have := HRL.out; omega
          have hlh : l < (rowAt T.hi k).length := by have := HRL.out; omega
          obtain ⟨b5, o5, rfl, hx5⟩ := X3.out l hlt2
          obtain ⟨b6, o6, rfl, hx6⟩ := L3.out l hll
          obtain ⟨b7, o7, rfl, hx7⟩ := H3.out l hlh
          have hno : ¬ fitsP T x k l → flowB T x = false := fun hh => NO.out (fun h3 => hh (h3.2.1 k hlt l hlt2))
          have HNO := Lib.hid hno; clear hno
          by_cases t1 : ix (rowAt x k) l < ix (rowAt T.lo k) l
          · have HR := Lib.hid (HNO.out (by unfold fitsP; omega))
            go_wp2
            go_ret2
            exact ⟨by rw [HR.out]; rfl, v1⟩
          by_cases t2 : ix (rowAt T.hi k) l < ix (rowAt x k) l
          · have HR := Lib.hid (HNO.out (by unfold fitsP; omega))
            go_wp2
            go_ret2
            exact ⟨by rw [HR.out]; rfl, v1⟩
          have HOK : Hid (fitsP T x k l) := Lib.hid (by unfold fitsP; omega)
          go_wp2
          go_round
          case rel => exact ⟨l + 1, by omega, by go_num, fun j hj => by
            by_cases e : j = l
            · subst e; exact HOK.out
            · exact HJJ.out j (by omega)⟩
          case measure => simp [intOf]; omega
        · go_wp2
          go_round
          case rel => exact ⟨k + 1, by omega, by go_num, fun i' hi' => by
            by_cases e : i' = k
            · subst e; exact fun j hj => HJJ.out j (by omega)
            · exact HJ.out i' (by omega)⟩
          case measure => simp [intOf]; omega
    · have hall : ∀ i, i < x.length → ∀ j, j < (rowAt x i).length → fitsP T x i j := fun i hi => (HJ.out i (by omega))
      have htm := fits_tame HO.out S1.out hall
      have HTM := Lib.hid htm; clear htm
      have HALL := Lib.hid hall; clear hall
      have hx0 : 0 < x.length := by have := HXL.out; have := HDM.out; omega
      have r0 := H.out.f0.ext v1
      have r1 := H.out.f1.ext v1
      have rx := HX.out.ext v1
      have R0 := Lib.hid r0; clear r0
      have R1 := Lib.hid r1; clear r1
      have RX := Lib.hid rx; clear rx
      cases e1 : decide (rowS x = T.rows)
      · have hr := NO.out (fun hh => by have := hh.2.2.1; rw [this] at e1; simp at e1)
        have HR := Lib.hid hr; clear hr
        have E1 := Lib.hid e1; clear e1
        go_wp2_with fail
        first
          | (go_region_with (first
              | (go_at_call 58; refine (rowSums_c _ x _ (RX.out.ext (Ext.refl _).drew) HTM.out).mono ?_; rintro e w5 ⟨x5, rfl, o5, u5⟩; have O5 := Lib.hid o5; obtain ⟨a5_, c5_, rfl, _, _, _⟩ := o5; have y0 := Ext.cell u5 l0)
              | (go_at_call 57; refine (equalI_b false _ _ (rowS x) T.rows _ E1.out O5.out.ints ((R0.out.ext (Ext.refl _).drew).ext u5)).mono ?_; rintro e w6 ⟨rfl, d6⟩)))
          | fail
        all_goals go_wp2
        all_goals go_ret2
        all_goals exact ⟨by rw [HR.out]; rfl, (v1.drew.trans u5).trans (Drew.ext d6)⟩
      · have E1 := Lib.hid e1; clear e1
        have hB : flowB T x = decide (colS x T.cols.length = T.cols) := by
          have er : rowS x = T.rows := by simpa using E1.out
          cases e2 : decide (colS x T.cols.length = T.cols)
          · exact NO.out (fun hh => by have := hh.2.2.2; rw [this] at e2; simp at e2)
          · exact flowB_true.2 ⟨S1.out, HALL.out, er, by simpa using e2⟩
        obtain ⟨B, hBB⟩ : ∃ B, decide (colS x T.cols.length = T.cols) = B := ⟨_, rfl⟩
        rw [hBB] at hB
        have HB := Lib.hid hB; clear hB
        have HBB := Lib.hid hBB; clear hBB
        obtain ⟨RS, hRS⟩ : ∃ RS, rowS x = RS := ⟨_, rfl⟩
        obtain ⟨CS, hCS⟩ : ∃ CS, colS x T.cols.length = CS := ⟨_, rfl⟩
        have E1' : Hid (decide (RS = T.rows) = true) := Lib.hid (by rw [← hRS]; exact E1.out)
        have HBB' : Hid (decide (CS = T.cols) = B) := Lib.hid (by rw [← hCS]; exact HBB.out)
        have HRS := Lib.hid hRS; clear hRS
        have HCS := Lib.hid hCS; clear hCS
        go_wp2_with fail
        first
          | (go_region_with (first
              | (go_at_call 58; refine (rowSums_c _ x _ (RX.out.ext (Ext.refl _).drew) HTM.out).mono ?_; rw [HRS.out]; rintro e w5 ⟨x5, rfl, o5, u5⟩; have O5 := Lib.hid o5; obtain ⟨a5_, c5_, rfl, _, _, _⟩ := o5; have y0 := Ext.cell u5 l0; have y1 := Ext.cell u5 l1)
              | (go_at_call 59; refine (colSums_c _ x T.cols.length _ (((RX.out.ext (Ext.refl _).drew).ext u5).ext (Drew.ext d6)) HTM.out hx0 HSH.out).mono ?_; rw [HCS.out]; rintro e w7 ⟨x7, rfl, o7, u7⟩; have O7 := Lib.hid o7; obtain ⟨a7_, c7_, rfl, _, _, _⟩ := o7; have y4 := Ext.cell u7 y3)
              | (go_at_call 57; refine (equalI_b B _ _ CS T.cols _ HBB'.out O7.out.ints ((((R1.out.ext (Ext.refl _).drew).ext u5).ext (Drew.ext d6)).ext u7)).mono ?_; rintro e w8 ⟨rfl, d8⟩)
              | (go_at_call 57; refine (equalI_b true _ _ RS T.rows _ E1'.out O5.out.ints ((R0.out.ext (Ext.refl _).drew).ext u5)).mono ?_; rintro e w6 ⟨rfl, d6⟩; have y3 := Ext.cell (Drew.ext d6) y1)))
          | fail
        all_goals go_wp2
        all_goals go_ret2
        all_goals exact ⟨by rw [HB.out]; rfl, (((v1.drew.trans u5).trans (Drew.ext d6)).trans u7).trans (Drew.ext d8)⟩
end Go.Proofs.Ytjpomfdmgaambaa
