/- IsFlow, the spec's and the program's. -/
import Derived.Test.YtjpomfdmgaambaaTrOk
import Derived.Test.YtjpomfdmgaambaaSums
import Derived.Test.YtjpomfdmgaambaaEqual
namespace Go.Proofs.Ytjpomfdmgaambaa
open Go.RowKit

theorem TrOk.dims {T : Tr} (h : TrOk T) : 1 ≤ T.rows.length ∧ T.rows.length ≤ 8 ∧ 1 ≤ T.cols.length ∧ T.cols.length ≤ 8 ∧ T.lo.length = T.rows.length ∧ T.hi.length = T.rows.length := by
  have h1 := h.1
  have h2 := h.2.1
  have h3 := (shapeB_true.1 h.2.2.1).1
  have h4 := (shapeB_true.1 h.2.2.2.1).1
  simp only [sumsB, Bool.and_eq_true, decide_eq_true_eq] at h1 h2
  omega
theorem TrOk.rowlen {T : Tr} (h : TrOk T) {i : Nat} (hi : i < T.rows.length) : (rowAt T.lo i).length = T.cols.length ∧ (rowAt T.hi i).length = T.cols.length := by
  have d := h.dims
  have h3 := (shapeB_true.1 h.2.2.1).2 i (by omega)
  have h4 := (shapeB_true.1 h.2.2.2.1).2 i (by omega)
  omega
theorem TrOk.cell {T : Tr} (h : TrOk T) {i j : Nat} (hi : i < T.rows.length) (hj : j < T.cols.length) : cellOk (ix (rowAt T.lo i) j) (ix (rowAt T.hi i) j) := by
  have d := h.dims
  exact h.2.2.2.2 i (by omega) j (by have := (h.rowlen hi).1; omega)

def fitsP (T : Tr) (x : List (List Int)) (i j : Nat) : Prop := ix (rowAt T.lo i) j ≤ ix (rowAt x i) j ∧ ix (rowAt x i) j ≤ ix (rowAt T.hi i) j
/-- a flow -/
def FlowOk (T : Tr) (x : List (List Int)) : Prop := shapeB T.rows.length T.cols.length x = true ∧ (∀ i, i < x.length → ∀ j, j < (rowAt x i).length → fitsP T x i j) ∧ rowS x = T.rows ∧ colS x T.cols.length = T.cols
open Classical in
noncomputable def flowB (T : Tr) (x : List (List Int)) : Bool := decide (FlowOk T x)
theorem flowB_true {T : Tr} {x : List (List Int)} : flowB T x = true ↔ FlowOk T x := by simp [flowB]
theorem flowB_false {T : Tr} {x : List (List Int)} (h : ¬ FlowOk T x) : flowB T x = false := by simp [flowB, h]
theorem fits_range {T : Tr} {x : List (List Int)} (h : TrOk T) {i : Nat} (hi : i < T.rows.length) (hl : (rowAt x i).length = T.cols.length) (hf : ∀ j, j < (rowAt x i).length → fitsP T x i j) :
    ∀ j, j < (rowAt x i).length → -1000000 ≤ ix (rowAt x i) j ∧ ix (rowAt x i) j ≤ 1000000 := by
  intro j hj
  have h1 := h.cell hi (j := j) (by omega)
  have h2 := hf j hj
  unfold cellOk at h1
  unfold fitsP at h2
  omega
theorem fits_tame {T : Tr} {x : List (List Int)} (h : TrOk T) (hs : shapeB T.rows.length T.cols.length x = true) (hf : ∀ i, i < x.length → ∀ j, j < (rowAt x i).length → fitsP T x i j) : Tame x := by
  have d := h.dims
  have s1 := shapeB_true.1 hs
  refine ⟨by omega, fun i hi => ?_⟩
  have hl := s1.2 i hi
  exact ⟨by omega, fits_range h (by omega) (by omega) (hf i hi)⟩

set_option maxHeartbeats 3200000 in
theorem tFits_b (b : Bool) (v : Value) (T : Tr) (v2 : Value) (x : List (List Int)) (w : World) (hb : flowB T x = b) (ho : TrOk T) (h : TrR w v T) (h2 : Grid w v2 x) :
    Calls Try.prog 30 #[v, v2] w fun e w' => e = .returned (.bool b) ∧ Ext w w' := by
  subst hb
  have H := Lib.hid h
  have HX := Lib.hid h2
  have HO := Lib.hid ho; clear ho
  obtain ⟨a0, c0, a1, c1, a2, c2, a3, c3, rfl, n0, n1, n2, n3⟩ := h.form
  clear h
  obtain ⟨ax, cx, rfl, p1, p2, p3⟩ := h2
  have GX := Lib.hid p3; clear p3
  have u0 := (Ext.refl w).alloc (.cells #[.slice a0 T.rows.length c0, .slice a1 T.cols.length c1, .slice a2 T.lo.length c2, .slice a3 T.hi.length c3] 30)
  have b0 := Box.new w 30 #[.slice a0 T.rows.length c0, .slice a1 T.cols.length c1, .slice a2 T.lo.length c2, .slice a3 T.hi.length c3] rfl
  have k0 := b0.cell 0 (by simp)
  have k1 := b0.cell 1 (by simp)
  have k2 := b0.cell 2 (by simp)
  have k3 := b0.cell 3 (by simp)
  have no : ¬ FlowOk T x → flowB T x = false := flowB_false
  have NO := Lib.hid no; clear no
  cases s1 : shapeB T.rows.length T.cols.length x
  · have hr := NO.out (fun hh => by have := hh.1; rw [s1] at this; cases this)
    have HR := Lib.hid hr; clear hr
    have S1 := Lib.hid s1; clear s1
    go_enter Try.func30, Try.ntmps30
    go_wp2_with fail
    refine (tSize_b false _ T _ x _ S1.out (H.out.ext u0) (HX.out.ext u0)).mono ?_
    rintro e w1 ⟨rfl, u1⟩
    go_wp2
    go_ret
    exact ⟨ret_bool HR.out.symm, u0.trans u1⟩
  have S1 := Lib.hid s1; clear s1
  have hsh := shapeB_true.1 S1.out
  have hd := HO.out.dims
  have hxl : x.length = T.rows.length := by omega
  have HXL := Lib.hid hxl; clear hxl
  have HSH : Hid (∀ i, i < x.length → (rowAt x i).length = T.cols.length) := Lib.hid (fun i hi => by have := hsh.2 i hi; omega)
  clear hsh
  have HDM := Lib.hid hd; clear hd
  go_enter Try.func30, Try.ntmps30
  go_wp2_with fail
  refine (tSize_b true _ T _ x _ S1.out (H.out.ext u0) (HX.out.ext u0)).mono ?_
  rintro e w1 ⟨rfl, u1⟩
  have b1 := b0.ext u1
  have v1 := u0.trans u1
  have g0 : IntsA w1 a0 T.rows := by
    obtain ⟨_, _, e, _, _, g⟩ := H.out.f0.ext v1
    cases e; exact g
  have g1 : IntsA w1 a1 T.cols := by
    obtain ⟨_, _, e, _, _, g⟩ := H.out.f1.ext v1
    cases e; exact g
  have g2 : GridA w1 a2 T.lo := by
    obtain ⟨_, _, e, _, _, g⟩ := H.out.f2.ext v1
    cases e; exact g
  have g3 : GridA w1 a3 T.hi := by
    obtain ⟨_, _, e, _, _, g⟩ := H.out.f3.ext v1
    cases e; exact g
  have G0 := Lib.hid g0; clear g0
  have G1 := Lib.hid g1; clear g1
  have G2 := Lib.hid g2; clear g2
  have G3 := Lib.hid g3; clear g3
  have GX1 := Lib.hid (GX.out.ext v1)
  go_wp2
  go_loopw [17] (fun i wr => ∃ k : Nat, k ≤ x.length ∧ i = .int .i64 k ∧ (∀ i', i' < k → (∀ j, j < (rowAt x i').length → fitsP T x i' j) ∧ (rowAt x i').sum = ix T.rows i') ∧ Drew w1 wr) (fun i _ => x.length - (intOf i).toNat)
  case atStart => exact ⟨0, Nat.zero_le _, rfl, fun i hi => by omega, Drew.refl _⟩
  case round =>
    obtain ⟨k, hk, rfl, hj, hd⟩ := hrel
    have HJ := Lib.hid hj; clear hj
    obtain ⟨wo, rfl⟩ : ∃ wo : World, wo = wr := ⟨_, rfl⟩
    by_cases hlt : k < x.length
    · have hkr : k < T.rows.length := by have := HXL.out; omega
      have hkl : k < T.lo.length := by have := HDM.out; omega
      have hkh : k < T.hi.length := by have := HDM.out; omega
      obtain ⟨bx, ox, axx, cxx, rfl, hcx, x1_, x2_, x3_⟩ := GX1.out.at_ hlt
      obtain ⟨bl, ol, al, cl, rfl, hcl, l1_, l2_, l3_⟩ := G2.out.at_ hkl
      obtain ⟨bh, oh, ah, ch, rfl, hch, h1_, h2_, h3_⟩ := G3.out.at_ hkh
      obtain ⟨br, or, rfl, hcr⟩ := G0.out k hkr
      have ecx := hd.cell hcx
      have X3 := Lib.hid x3_; clear x3_
      have L3 := Lib.hid l3_; clear l3_
      have H3 := Lib.hid h3_; clear h3_
      have hrl := HO.out.rowlen hkr
      have hxk := HSH.out k hlt
      have HRL := Lib.hid (And.intro hrl hxk); clear hrl hxk
      go_wp2
      go_loopw [24] (fun i wr => ∃ l : Nat, l ≤ (rowAt x k).length ∧ i = .int .i64 l ∧ (∀ j, j < l → fitsP T x k j) ∧ Drew w1 wr) (fun i _ => (rowAt x k).length - (intOf i).toNat)
      case atStart => exact ⟨0, Nat.zero_le _, rfl, fun i hi => by omega, hd⟩
      case round =>
        obtain ⟨l, hl, rfl, hjj, hd2⟩ := hrel
        have HJJ := Lib.hid hjj; clear hjj
        obtain ⟨wi, rfl⟩ : ∃ wi : World, wi = wr := ⟨_, rfl⟩
        have b4 := b1.ext hd2.ext
        have y0 := b4.cell 0 (by simp)
        have y2 := b4.cell 2 (by simp)
        have y3 := b4.cell 3 (by simp)
        have fcl := hd2.cell hcl
        have fch := hd2.cell hch
        by_cases hlt2 : l < (rowAt x k).length
        · have hll : l < (rowAt T.lo k).length := by have := HRL.out; omega
          have hlh : l < (rowAt T.hi k).length := by have := HRL.out; omega
          obtain ⟨b5, o5, rfl, hx5⟩ := X3.out l hlt2
          obtain ⟨b6, o6, rfl, hx6⟩ := L3.out l hll
          obtain ⟨b7, o7, rfl, hx7⟩ := H3.out l hlh
          have f5 := hd2.cell hx5
          have f6 := hd2.cell hx6
          have f7 := hd2.cell hx7
          have i1 : (0 : Int) ≤ (k : Int) := by omega
          have i2 : (k : Int) < (T.hi.length : Int) := by omega
          have i3 : (k : Int) < (T.lo.length : Int) := by omega
          have i4 : (0 : Int) ≤ (l : Int) := by omega
          have i5 : (l : Int) < ((rowAt T.hi k).length : Int) := by omega
          have i6 : (l : Int) < ((rowAt T.lo k).length : Int) := by omega
          cases t1 : (decide (ix (rowAt T.lo k) l ≤ ix (rowAt x k) l) && decide (ix (rowAt x k) l ≤ ix (rowAt T.hi k) l))
          · have hr := NO.out (fun hh => by have := hh.2.1 k hlt l hlt2; unfold fitsP at this; simp at t1; omega)
            have HR := Lib.hid hr; clear hr
            have T1 := Lib.hid t1; clear t1
            go_wp2_with fail
            go_quiet ((go_at_call 43; exact Calls.quiet_of_same (l1In_b false _ _ _ _ T1.out)))
            go_wp2
            go_ret
            exact ⟨ret_bool HR.out.symm, (v1.trans hd2.ext).drewN _⟩
          · have hok : fitsP T x k l := by unfold fitsP; simp at t1; omega
            have HOK := Lib.hid hok; clear hok
            have T1 := Lib.hid t1; clear t1
            go_wp2_with fail
            go_quiet ((go_at_call 43; exact Calls.quiet_of_same (l1In_b true _ _ _ _ T1.out)))
            go_wp2
            go_roundw
            case rel => exact ⟨l + 1, by omega, by go_num, fun j hj => by
              by_cases e : j = l
              · subst e; exact HOK.out
              · exact HJJ.out j (by omega), hd2.drewN _⟩
            case measure => simp [intOf]; omega
        · have hfk : ∀ j, j < (rowAt x k).length → fitsP T x k j := fun j hj => HJJ.out j (by omega)
          have hso : SumOk (rowAt x k) := sumOk_of (sum_tame (fits_range HO.out hkr HRL.out.2 hfk) (by have := HRL.out; have := HDM.out; omega))
          have HFK := Lib.hid hfk; clear hfk
          have HSO := Lib.hid hso; clear hso
          have frc := hd2.cell hcr
          have hrd : Ints wi (.slice axx (rowAt x k).length cxx) (rowAt x k) := ⟨axx, cxx, rfl, x1_, x2_, fun j hj => by obtain ⟨b9, o9, e9, h9⟩ := X3.out j hj; exact ⟨b9, o9, e9, hd2.cell h9⟩⟩
          have HRD := Lib.hid hrd; clear hrd
          have i1 : (0 : Int) ≤ (k : Int) := by omega
          have i2 : (k : Int) < (T.rows.length : Int) := by omega
          by_cases hs : (rowAt x k).sum = ix T.rows k
          · have hne : ((rowAt x k).sum != ix T.rows k) = false := by simp [hs]
            have HS := Lib.hid hs; clear hs
            go_wp2_with fail
            go_quiet ((go_at_call 52; exact Calls.quiet_of_same (tSum_c _ (rowAt x k) _ HRD.out HSO.out)))
            go_wp2
            go_roundw
            case rel => exact ⟨k + 1, by omega, by go_num, fun i' hi' => by
              by_cases e : i' = k
              · subst e; exact ⟨HFK.out, HS.out⟩
              · exact HJ.out i' (by omega), hd2.drewN _⟩
            case measure => simp [intOf]; omega
          · have hne : ((rowAt x k).sum != ix T.rows k) = true := by simp [hs]
            have hr := NO.out (fun hh => hs (by rw [← ix_rowS hlt, hh.2.2.1]))
            have HR := Lib.hid hr; clear hr hs
            go_wp2_with fail
            go_quiet ((go_at_call 52; exact Calls.quiet_of_same (tSum_c _ (rowAt x k) _ HRD.out HSO.out)))
            go_wp2
            go_ret
            exact ⟨ret_bool HR.out.symm, (v1.trans hd2.ext).drewN _⟩
    · have hall : ∀ i, i < x.length → ∀ j, j < (rowAt x i).length → fitsP T x i j := fun i hi => (HJ.out i (by omega)).1
      have hrows : rowS x = T.rows := list_ext_ix (by rw [rowS_length]; exact HXL.out) (fun i hi => by
        rw [rowS_length] at hi
        rw [ix_rowS hi]; exact (HJ.out i (by omega)).2)
      have htm := fits_tame HO.out S1.out hall
      have HTM := Lib.hid htm; clear htm
      have HALL := Lib.hid hall; clear hall
      have HROWS := Lib.hid hrows; clear hrows
      have b4 := b1.ext hd.ext
      have y1 := b4.cell 1 (by simp)
      have hxl8 : x.length ≤ 1000 := HTM.out.1
      go_wp2
      go_loopw [61] (fun i wr => ∃ k : Nat, k ≤ T.cols.length ∧ i = .int .i64 k ∧ (∀ j, j < k → (colOf x j).sum = ix T.cols j) ∧ Ext w1 wr) (fun i _ => T.cols.length - (intOf i).toNat)
      case atStart => exact ⟨0, Nat.zero_le _, rfl, fun i hi => by omega, hd.ext⟩
      case round =>
        obtain ⟨k', hk', rfl, hjc, hxx⟩ := hrel
        have HJC := Lib.hid hjc; clear hjc
        obtain ⟨wi, rfl⟩ : ∃ wi : World, wi = wr := ⟨_, rfl⟩
        by_cases hlt3 : k' < T.cols.length
        · obtain ⟨b5, o5, rfl, hx5⟩ := G1.out k' hlt3
          have f5 := Ext.cell hxx hx5
          have hjj : ∀ i, i < x.length → k' < (rowAt x i).length := fun i hi => by have := HSH.out i hi; omega
          have HJX := Lib.hid hjj; clear hjj
          have hrd := HX.out.ext (v1.trans hxx)
          have HRD := Lib.hid hrd; clear hrd
          go_wp2_with fail
          refine (tColumn_c _ x k' _ HRD.out hxl8 HJX.out).mono ?_
          rintro e w5 ⟨x5, rfl, o5_, u5⟩
          have O5 := Lib.hid o5_; clear o5_
          go_wp2_with fail
          refine (tSum_c _ (colOf x k') _ O5.out.ints (sumOk_of (HTM.out.col HJX.out))).mono ?_
          rintro e w5 ⟨rfl, rfl⟩
          by_cases hs : (colOf x k').sum = ix T.cols k'
          · have hne : ((colOf x k').sum != ix T.cols k') = false := by simp [hs]
            have HS := Lib.hid hs; clear hs
            go_wp2
            go_roundw
            case rel => exact ⟨k' + 1, by omega, by go_num, fun j hj => by
              by_cases e : j = k'
              · subst e; exact HS.out
              · exact HJC.out j (by omega), hxx.trans u5⟩
            case measure => simp [intOf]; omega
          · have hne : ((colOf x k').sum != ix T.cols k') = true := by simp [hs]
            have hr := NO.out (fun hh => hs (by rw [← ix_colS hlt3, hh.2.2.2]))
            have HR := Lib.hid hr; clear hr hs
            go_wp2
            go_ret
            exact ⟨ret_bool HR.out.symm, (v1.trans hxx).trans u5⟩
        · have hcols : colS x T.cols.length = T.cols := list_ext_ix (by rw [colS_length]) (fun j hj => by
            rw [colS_length] at hj
            rw [ix_colS hj]; exact HJC.out j (by omega))
          have hok : flowB T x = true := flowB_true.2 ⟨S1.out, HALL.out, HROWS.out, hcols⟩
          have HOK := Lib.hid hok; clear hok hcols
          go_wp2
          go_ret
          exact ⟨ret_bool HOK.out.symm, v1.trans hxx⟩
end Go.Proofs.Ytjpomfdmgaambaa
