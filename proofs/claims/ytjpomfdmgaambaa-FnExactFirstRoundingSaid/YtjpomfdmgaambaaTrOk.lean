/- IsTransport, the spec's and the program's. -/
import Derived.Test.YtjpomfdmgaambaaTr
import Derived.Test.YtjpomfdmgaambaaGrid
import Derived.Test.YtjpomfdmgaambaaApp
namespace Go.Proofs.Ytjpomfdmgaambaa
open Go.RowKit

theorem Drew.drew' {w w' : World} (h : Drew w w') : Drew w w'.drew := h.drewN 1
def cellOk (a b : Int) : Prop := 0 ≤ a ∧ a ≤ b ∧ b ≤ 100000
def sumsB (xs : List Int) : Bool := (decide ((1 : Int) ≤ (xs.length : Int)) && decide ((xs.length : Int) ≤ 8)) && allIn 0 100000 xs
/-- a valid network -/
def TrOk (T : Tr) : Prop := sumsB T.rows = true ∧ sumsB T.cols = true ∧ shapeB T.rows.length T.cols.length T.lo = true ∧ shapeB T.rows.length T.cols.length T.hi = true ∧
  ∀ i, i < T.lo.length → ∀ j, j < (rowAt T.lo i).length → cellOk (ix (rowAt T.lo i) j) (ix (rowAt T.hi i) j)
open Classical in
noncomputable def trB (T : Tr) : Bool := decide (TrOk T)
theorem trB_true {T : Tr} : trB T = true ↔ TrOk T := by simp [trB]
theorem trB_false {T : Tr} (h : ¬ TrOk T) : trB T = false := by simp [trB, h]

set_option maxHeartbeats 400000 in
theorem areSums_b (b : Bool) (v : Value) (xs : List Int) (w : World) (hb : sumsB xs = b) (h : Ints w v xs) :
    Calls Try.prog 80 #[v] w fun e w' => e = .returned (.bool b) ∧ w' = w := by
  subst hb
  obtain ⟨ao, cap, rfl, h1, h2, h3⟩ := h
  have G := Lib.hid h3; clear h3
  have no : ¬ (sumsB xs = true) → sumsB xs = false := fun h => by simpa using h
  have NO := Lib.hid no; clear no
  by_cases n1 : xs.length < 1
  · have hr := NO.out (by unfold sumsB; simp; omega)
    have HR := Lib.hid hr; clear hr
    go_enter Try.func80, Try.ntmps80
    go_wp2
    go_ret
    exact ⟨ret_bool HR.out.symm, rfl⟩
  by_cases n2 : 8 < xs.length
  · have hr := NO.out (by unfold sumsB; simp; omega)
    have HR := Lib.hid hr; clear hr
    go_enter Try.func80, Try.ntmps80
    go_wp2
    go_ret
    exact ⟨ret_bool HR.out.symm, rfl⟩
  go_enter Try.func80, Try.ntmps80
  go_wp2
  go_loop [15] (fun i => ∃ k : Nat, k ≤ xs.length ∧ i = .int .i64 k ∧ ∀ j, j < k → 0 ≤ ix xs j ∧ ix xs j ≤ 100000) (fun i => xs.length - (intOf i).toNat)
  case atStart => exact ⟨0, Nat.zero_le _, rfl, fun j hj => by omega⟩
  case round =>
    obtain ⟨k, hk, rfl, hj⟩ := hrel
    have HJ := Lib.hid hj; clear hj
    by_cases hlt : k < xs.length
    · obtain ⟨b, o, rfl, hc⟩ := G.out k hlt
      have hno : ¬ (0 ≤ ix xs k ∧ ix xs k ≤ 100000) → sumsB xs = false := fun hh => NO.out (fun hs => by
        have := allIn_true (lo := 0) (hi := 100000) (xs := xs) (by simp only [sumsB, Bool.and_eq_true] at hs; exact hs.2) hlt
        exact hh this)
      have HNO := Lib.hid hno; clear hno
      by_cases hn : ix xs k < 0
      · go_wp2
        go_ret
        exact ⟨ret_bool (HNO.out (by omega)).symm, rfl⟩
      · by_cases hm : 100000 < ix xs k
        · go_wp2
          go_ret
          exact ⟨ret_bool (HNO.out (by omega)).symm, rfl⟩
        · go_wp2
          go_round
          case rel => exact ⟨k + 1, by omega, by go_num, fun j hj => by
            by_cases e : j = k
            · subst e; omega
            · exact HJ.out j (by omega)⟩
          case measure => simp [intOf]; omega
    · have hall := allIn_of (lo := 0) (hi := 100000) (xs := xs) (fun j hj => HJ.out j (by omega))
      have hr : sumsB xs = true := by unfold sumsB; rw [hall]; simp; omega
      have HR := Lib.hid hr; clear hr hall
      go_wp2
      go_ret
      exact ⟨ret_bool HR.out.symm, rfl⟩

set_option maxHeartbeats 800000 in
theorem tSize_b (b : Bool) (v : Value) (T : Tr) (v2 : Value) (xss : List (List Int)) (w : World) (hb : shapeB T.rows.length T.cols.length xss = b) (h : TrR w v T) (h2 : Grid w v2 xss) :
    Calls Try.prog 51 #[v, v2] w fun e w' => e = .returned (.bool b) ∧ Ext w w' := by
  subst hb
  obtain ⟨a0, c0, a1, c1, a2, c2, a3, c3, rfl, n0, n1, n2, n3⟩ := h.form
  clear h
  obtain ⟨ao, cap, rfl, p1, p2, p3⟩ := h2
  have G := Lib.hid p3; clear p3
  have u0 := (Ext.refl w).alloc (.cells #[.slice a0 T.rows.length c0, .slice a1 T.cols.length c1, .slice a2 T.lo.length c2, .slice a3 T.hi.length c3] 30)
  have b0 := Box.new w 30 #[.slice a0 T.rows.length c0, .slice a1 T.cols.length c1, .slice a2 T.lo.length c2, .slice a3 T.hi.length c3] rfl
  have k0 := b0.cell 0 (by simp)
  have k1 := b0.cell 1 (by simp)
  have GG := Lib.hid (G.out.ext u0)
  by_cases hn : xss.length = T.rows.length
  · have hne : ((xss.length : Int) != (T.rows.length : Int)) = false := by simp; omega
    have HN := Lib.hid hn; clear hn
    go_enter Try.func51, Try.ntmps51
    go_wp2
    go_loop [15] (fun i => ∃ k : Nat, k ≤ xss.length ∧ i = .int .i64 k ∧ ∀ j, j < k → ((rowAt xss j).length : Int) = T.cols.length) (fun i => xss.length - (intOf i).toNat)
    case atStart => exact ⟨0, Nat.zero_le _, rfl, fun j hj => by omega⟩
    case round =>
      obtain ⟨k, hk, rfl, hj⟩ := hrel
      have HJ := Lib.hid hj; clear hj
      by_cases hlt : k < xss.length
      · obtain ⟨b', o', ar, cr, rfl, hc, r1, r2, r3⟩ := GG.out.at_ hlt
        clear r3
        by_cases hl : ((rowAt xss k).length : Int) = T.cols.length
        · have hne2 : (((rowAt xss k).length : Int) != (T.cols.length : Int)) = false := by simp; omega
          have HL := Lib.hid hl; clear hl
          go_wp2
          go_round
          case rel => exact ⟨k + 1, by omega, by go_num, fun j hj => by
            by_cases e : j = k
            · subst e; exact HL.out
            · exact HJ.out j (by omega)⟩
          case measure => simp [intOf]; omega
        · have hne2 : (((rowAt xss k).length : Int) != (T.cols.length : Int)) = true := by simp; omega
          have hr := Lib.hid (shapeB_false (n := T.rows.length) (m := T.cols.length) (xss := xss) (fun hh => hl (hh.2 k hlt)))
          clear hl
          go_wp2
          go_ret
          exact ⟨ret_bool hr.out.symm, u0⟩
      · go_wp2
        go_ret
        exact ⟨ret_bool (shapeB_true.2 ⟨by have := HN.out; omega, fun j hj => HJ.out j (by omega)⟩).symm, u0⟩
  · have hne : ((xss.length : Int) != (T.rows.length : Int)) = true := by simp; omega
    have hr := Lib.hid (shapeB_false (n := T.rows.length) (m := T.cols.length) (xss := xss) (fun hh => hn (by omega)))
    clear hn
    go_enter Try.func51, Try.ntmps51
    go_wp2
    go_ret
    exact ⟨ret_bool hr.out.symm, u0⟩

set_option maxHeartbeats 3200000 in
theorem tGood_b (b : Bool) (v : Value) (T : Tr) (w : World) (hb : trB T = b) (h : TrR w v T) : Calls Try.prog 29 #[v] w fun e w' => e = .returned (.bool b) ∧ Ext w w' := by
  subst hb
  have H := Lib.hid h
  obtain ⟨a0, c0, a1, c1, a2, c2, a3, c3, rfl, n0, n1, n2, n3⟩ := h.form
  clear h
  have u0 := (Ext.refl w).alloc (.cells #[.slice a0 T.rows.length c0, .slice a1 T.cols.length c1, .slice a2 T.lo.length c2, .slice a3 T.hi.length c3] 30)
  have b0 := Box.new w 30 #[.slice a0 T.rows.length c0, .slice a1 T.cols.length c1, .slice a2 T.lo.length c2, .slice a3 T.hi.length c3] rfl
  have k0 := b0.cell 0 (by simp)
  have k1 := b0.cell 1 (by simp)
  have k2 := b0.cell 2 (by simp)
  have k3 := b0.cell 3 (by simp)
  have no : ¬ TrOk T → trB T = false := trB_false
  have NO := Lib.hid no; clear no
  cases r1 : (decide ((1 : Int) ≤ (T.rows.length : Int)) && decide ((T.rows.length : Int) ≤ 8))
  · have hr := NO.out (fun hh => by have := hh.1; unfold sumsB at this; rw [r1] at this; simp at this)
    have HR := Lib.hid hr; clear hr
    have R1 := Lib.hid r1; clear r1
    go_enter Try.func29, Try.ntmps29
    go_wp2_with fail
    refine (l1In_b false (T.rows.length : Int) 1 8 _ R1.out).mono ?_
    rintro e w' ⟨rfl, rfl⟩
    go_wp2
    go_ret
    exact ⟨ret_bool HR.out.symm, u0⟩
  have R1 := Lib.hid r1; clear r1
  cases q1 : (decide ((1 : Int) ≤ (T.cols.length : Int)) && decide ((T.cols.length : Int) ≤ 8))
  · have hr := NO.out (fun hh => by have := hh.2.1; unfold sumsB at this; rw [q1] at this; simp at this)
    have HR := Lib.hid hr; clear hr
    have Q1 := Lib.hid q1; clear q1
    go_enter Try.func29, Try.ntmps29
    go_wp2_with fail
    refine (l1In_b true (T.rows.length : Int) 1 8 _ R1.out).mono ?_
    rintro e w' ⟨rfl, rfl⟩
    go_wp2_with fail
    refine (l1In_b false (T.cols.length : Int) 1 8 _ Q1.out).mono ?_
    rintro e w' ⟨rfl, rfl⟩
    go_wp2
    go_ret
    exact ⟨ret_bool HR.out.symm, u0⟩
  have Q1 := Lib.hid q1; clear q1
  cases r2 : allIn 0 100000 T.rows
  · have hr := NO.out (fun hh => by have := hh.1; unfold sumsB at this; rw [r2] at this; simp at this)
    have HR := Lib.hid hr; clear hr
    have R2 := Lib.hid r2; clear r2
    go_enter Try.func29, Try.ntmps29
    go_wp2_with fail
    refine (l1In_b true (T.rows.length : Int) 1 8 _ R1.out).mono ?_
    rintro e w' ⟨rfl, rfl⟩
    go_wp2_with fail
    refine (l1In_b true (T.cols.length : Int) 1 8 _ Q1.out).mono ?_
    rintro e w' ⟨rfl, rfl⟩
    go_wp2_with fail
    refine (l1All_b false _ T.rows 0 100000 _ R2.out (H.out.f0.ext u0)).mono ?_
    rintro e w' ⟨rfl, rfl⟩
    go_wp2
    go_ret
    exact ⟨ret_bool HR.out.symm, u0⟩
  have R2 := Lib.hid r2; clear r2
  cases q2 : allIn 0 100000 T.cols
  · have hr := NO.out (fun hh => by have := hh.2.1; unfold sumsB at this; rw [q2] at this; simp at this)
    have HR := Lib.hid hr; clear hr
    have Q2 := Lib.hid q2; clear q2
    go_enter Try.func29, Try.ntmps29
    go_wp2_with fail
    refine (l1In_b true (T.rows.length : Int) 1 8 _ R1.out).mono ?_
    rintro e w' ⟨rfl, rfl⟩
    go_wp2_with fail
    refine (l1In_b true (T.cols.length : Int) 1 8 _ Q1.out).mono ?_
    rintro e w' ⟨rfl, rfl⟩
    go_wp2_with fail
    refine (l1All_b true _ T.rows 0 100000 _ R2.out (H.out.f0.ext u0)).mono ?_
    rintro e w' ⟨rfl, rfl⟩
    go_wp2_with fail
    refine (l1All_b false _ T.cols 0 100000 _ Q2.out (H.out.f1.ext u0)).mono ?_
    rintro e w' ⟨rfl, rfl⟩
    go_wp2
    go_ret
    exact ⟨ret_bool HR.out.symm, u0⟩
  have Q2 := Lib.hid q2; clear q2
  cases s1 : shapeB T.rows.length T.cols.length T.lo
  · have hr := NO.out (fun hh => by have := hh.2.2.1; rw [s1] at this; cases this)
    have HR := Lib.hid hr; clear hr
    have S1 := Lib.hid s1; clear s1
    go_enter Try.func29, Try.ntmps29
    go_wp2_with fail
    refine (l1In_b true (T.rows.length : Int) 1 8 _ R1.out).mono ?_
    rintro e w' ⟨rfl, rfl⟩
    go_wp2_with fail
    refine (l1In_b true (T.cols.length : Int) 1 8 _ Q1.out).mono ?_
    rintro e w' ⟨rfl, rfl⟩
    go_wp2_with fail
    refine (l1All_b true _ T.rows 0 100000 _ R2.out (H.out.f0.ext u0)).mono ?_
    rintro e w' ⟨rfl, rfl⟩
    go_wp2_with fail
    refine (l1All_b true _ T.cols 0 100000 _ Q2.out (H.out.f1.ext u0)).mono ?_
    rintro e w' ⟨rfl, rfl⟩
    go_wp2_with fail
    refine (tSize_b false _ T _ T.lo _ S1.out (H.out.ext u0) (H.out.f2.ext u0)).mono ?_
    rintro e w1 ⟨rfl, u1⟩
    have b1 := b0.ext u1
    have l0 := b1.cell 0 (by simp)
    have l1 := b1.cell 1 (by simp)
    have l2 := b1.cell 2 (by simp)
    have l3 := b1.cell 3 (by simp)
    go_wp2
    go_ret
    exact ⟨ret_bool HR.out.symm, u0.trans u1⟩
  have S1 := Lib.hid s1; clear s1
  cases s2 : shapeB T.rows.length T.cols.length T.hi
  · have hr := NO.out (fun hh => by have := hh.2.2.2.1; rw [s2] at this; cases this)
    have HR := Lib.hid hr; clear hr
    have S2 := Lib.hid s2; clear s2
    go_enter Try.func29, Try.ntmps29
    go_wp2_with fail
    refine (l1In_b true (T.rows.length : Int) 1 8 _ R1.out).mono ?_
    rintro e w' ⟨rfl, rfl⟩
    go_wp2_with fail
    refine (l1In_b true (T.cols.length : Int) 1 8 _ Q1.out).mono ?_
    rintro e w' ⟨rfl, rfl⟩
    go_wp2_with fail
    refine (l1All_b true _ T.rows 0 100000 _ R2.out (H.out.f0.ext u0)).mono ?_
    rintro e w' ⟨rfl, rfl⟩
    go_wp2_with fail
    refine (l1All_b true _ T.cols 0 100000 _ Q2.out (H.out.f1.ext u0)).mono ?_
    rintro e w' ⟨rfl, rfl⟩
    go_wp2_with fail
    refine (tSize_b true _ T _ T.lo _ S1.out (H.out.ext u0) (H.out.f2.ext u0)).mono ?_
    rintro e w1 ⟨rfl, u1⟩
    have b1 := b0.ext u1
    have l0 := b1.cell 0 (by simp)
    have l1 := b1.cell 1 (by simp)
    have l2 := b1.cell 2 (by simp)
    have l3 := b1.cell 3 (by simp)
    go_wp2_with fail
    refine (tSize_b false _ T _ T.hi _ S2.out (H.out.ext (u0.trans u1)) (H.out.f3.ext (u0.trans u1))).mono ?_
    rintro e w2 ⟨rfl, u2⟩
    have b2 := b1.ext u2
    have m0 := b2.cell 0 (by simp)
    have m1 := b2.cell 1 (by simp)
    have m2 := b2.cell 2 (by simp)
    have m3 := b2.cell 3 (by simp)
    have v2 := (u0.trans u1).trans u2
    go_wp2
    go_ret
    exact ⟨ret_bool HR.out.symm, v2⟩
  have S2 := Lib.hid s2; clear s2
  have hs1 := shapeB_true.1 S1.out
  have hs2 := shapeB_true.1 S2.out
  have hlo : T.lo.length = T.rows.length := by omega
  have hhi : T.hi.length = T.rows.length := by omega
  have HS : Hid (∀ i, i < T.lo.length → (rowAt T.lo i).length = T.cols.length ∧ (rowAt T.hi i).length = T.cols.length) := Lib.hid (fun i hi => by have h1 := hs1.2 i hi; have h2 := hs2.2 i (by omega); omega)
  have HLO := Lib.hid hlo; clear hlo
  have HHI := Lib.hid hhi; clear hhi
  clear hs1 hs2
  go_enter Try.func29, Try.ntmps29
  go_wp2_with fail
  refine (l1In_b true (T.rows.length : Int) 1 8 _ R1.out).mono ?_
  rintro e w' ⟨rfl, rfl⟩
  go_wp2_with fail
  refine (l1In_b true (T.cols.length : Int) 1 8 _ Q1.out).mono ?_
  rintro e w' ⟨rfl, rfl⟩
  go_wp2_with fail
  refine (l1All_b true _ T.rows 0 100000 _ R2.out (H.out.f0.ext u0)).mono ?_
  rintro e w' ⟨rfl, rfl⟩
  go_wp2_with fail
  refine (l1All_b true _ T.cols 0 100000 _ Q2.out (H.out.f1.ext u0)).mono ?_
  rintro e w' ⟨rfl, rfl⟩
  go_wp2_with fail
  refine (tSize_b true _ T _ T.lo _ S1.out (H.out.ext u0) (H.out.f2.ext u0)).mono ?_
  rintro e w1 ⟨rfl, u1⟩
  have b1 := b0.ext u1
  have l0 := b1.cell 0 (by simp)
  have l1 := b1.cell 1 (by simp)
  have l2 := b1.cell 2 (by simp)
  have l3 := b1.cell 3 (by simp)
  go_wp2_with fail
  refine (tSize_b true _ T _ T.hi _ S2.out (H.out.ext (u0.trans u1)) (H.out.f3.ext (u0.trans u1))).mono ?_
  rintro e w2 ⟨rfl, u2⟩
  have b2 := b1.ext u2
  have m0 := b2.cell 0 (by simp)
  have m1 := b2.cell 1 (by simp)
  have m2 := b2.cell 2 (by simp)
  have m3 := b2.cell 3 (by simp)
  have v2 := (u0.trans u1).trans u2
  have g2 : GridA w2 a2 T.lo := by
    obtain ⟨_, _, e, _, _, g⟩ := H.out.f2.ext v2
    cases e; exact g
  have g3 : GridA w2 a3 T.hi := by
    obtain ⟨_, _, e, _, _, g⟩ := H.out.f3.ext v2
    cases e; exact g
  have G2 := Lib.hid g2; clear g2
  have G3 := Lib.hid g3; clear g3
  go_wp2
  go_loopw [46] (fun i wr => ∃ k : Nat, k ≤ T.lo.length ∧ i = .int .i64 k ∧ (∀ i', i' < k → ∀ j, j < (rowAt T.lo i').length → cellOk (ix (rowAt T.lo i') j) (ix (rowAt T.hi i') j)) ∧ Drew w2 wr) (fun i _ => T.lo.length - (intOf i).toNat)
  case atStart => exact ⟨0, Nat.zero_le _, rfl, fun i hi => by omega, Drew.refl _⟩
  case round =>
    obtain ⟨k, hk, rfl, hj, hd⟩ := hrel
    have HJ := Lib.hid hj; clear hj
    obtain ⟨wo, rfl⟩ : ∃ wo : World, wo = wr := ⟨_, rfl⟩
    have b3 := b2.ext hd.ext
    have o2 := b3.cell 2 (by simp)
    have o3 := b3.cell 3 (by simp)
    by_cases hlt : k < T.lo.length
    · obtain ⟨bl, ol, al, cl, rfl, hcl, l1_, l2_, l3_⟩ := G2.out.at_ hlt
      have hkh : k < T.hi.length := by have h1 := HLO.out; have h2 := HHI.out; omega
      obtain ⟨bh, oh, ah, ch, rfl, hch, h1_, h2_, h3_⟩ := G3.out.at_ hkh
      have ecl := hd.cell hcl
      have ech := hd.cell hch
      have L3 := Lib.hid l3_; clear l3_
      have H3 := Lib.hid h3_; clear h3_
      have hrl := HS.out k hlt
      have HRL := Lib.hid hrl; clear hrl
      go_wp2
      go_loopw [55] (fun i wr => ∃ l : Nat, l ≤ (rowAt T.lo k).length ∧ i = .int .i64 l ∧ (∀ j, j < l → cellOk (ix (rowAt T.lo k) j) (ix (rowAt T.hi k) j)) ∧ Drew w2 wr) (fun i _ => (rowAt T.lo k).length - (intOf i).toNat)
      case atStart => exact ⟨0, Nat.zero_le _, rfl, fun i hi => by omega, hd⟩
      case round =>
        obtain ⟨l, hl, rfl, hjj, hd2⟩ := hrel
        have HJJ := Lib.hid hjj; clear hjj
        obtain ⟨wi, rfl⟩ : ∃ wi : World, wi = wr := ⟨_, rfl⟩
        have b4 := b2.ext hd2.ext
        have y2 := b4.cell 2 (by simp)
        have y3 := b4.cell 3 (by simp)
        have fcl := hd2.cell hcl
        have fch := hd2.cell hch
        by_cases hlt2 : l < (rowAt T.lo k).length
        · have hlh : l < (rowAt T.hi k).length := by have := HRL.out; omega
          obtain ⟨bx, ox, rfl, hx⟩ := L3.out l hlt2
          obtain ⟨bz, oz, rfl, hz⟩ := H3.out l hlh
          have fx := hd2.cell hx
          have fz := hd2.cell hz
          have i1 : (0 : Int) ≤ (k : Int) := by omega
          have i2 : (k : Int) < (T.hi.length : Int) := by omega
          have i2' : (k : Int) < (T.lo.length : Int) := by omega
          have i3 : (0 : Int) ≤ (l : Int) := by omega
          have i4 : (l : Int) < ((rowAt T.hi k).length : Int) := by omega
          have i5 : (l : Int) < ((rowAt T.lo k).length : Int) := by omega
          cases t1 : (decide (0 ≤ ix (rowAt T.hi k) l) && decide (ix (rowAt T.hi k) l ≤ 100000))
          · have hr := NO.out (fun hh => by have := hh.2.2.2.2 k hlt l hlt2; unfold cellOk at this; simp at t1; omega)
            have HR := Lib.hid hr; clear hr
            have T1 := Lib.hid t1; clear t1
            go_wp2_with fail
            go_quiet ((go_at_call 43; exact Calls.quiet_of_same (l1In_b false _ _ _ _ T1.out)))
            go_wp2
            go_ret
            exact ⟨ret_bool HR.out.symm, (v2.trans hd2.ext).drewN _⟩
          · cases t2 : (decide (0 ≤ ix (rowAt T.lo k) l) && decide (ix (rowAt T.lo k) l ≤ ix (rowAt T.hi k) l))
            · have hr := NO.out (fun hh => by have := hh.2.2.2.2 k hlt l hlt2; unfold cellOk at this; simp at t2; omega)
              have HR := Lib.hid hr; clear hr
              have T1 := Lib.hid t1; clear t1
              have T2 := Lib.hid t2; clear t2
              go_wp2_with fail
              go_quiet ((first | (go_at_call 43; exact Calls.quiet_of_same (l1In_b true _ _ _ _ T1.out)) | (go_at_call 43; exact Calls.quiet_of_same (l1In_b false _ _ _ _ T2.out))))
              go_wp2
              go_ret
              exact ⟨ret_bool HR.out.symm, (v2.trans hd2.ext).drewN _⟩
            · have hok : cellOk (ix (rowAt T.lo k) l) (ix (rowAt T.hi k) l) := by unfold cellOk; simp at t1 t2; omega
              have HOK := Lib.hid hok; clear hok
              have T1 := Lib.hid t1; clear t1
              have T2 := Lib.hid t2; clear t2
              go_wp2_with fail
              go_quiet ((first | (go_at_call 43; exact Calls.quiet_of_same (l1In_b true _ _ _ _ T1.out)) | (go_at_call 43; exact Calls.quiet_of_same (l1In_b true _ _ _ _ T2.out))))
              go_wp2
              go_roundw
              case rel => exact ⟨l + 1, by omega, by go_num, fun j hj => by
                by_cases e : j = l
                · subst e; exact HOK.out
                · exact HJJ.out j (by omega), hd2.drewN _⟩
              case measure => simp [intOf]; omega
        · go_wp2
          go_roundw
          case rel => exact ⟨k + 1, by omega, by go_num, fun i' hi' j hj => by
            by_cases e : i' = k
            · subst e; exact HJJ.out j (by omega)
            · exact HJ.out i' (by omega) j hj, hd2⟩
          case measure => simp [intOf]; omega
    · have hok : trB T = true := trB_true.2 ⟨by unfold sumsB; rw [R1.out, R2.out]; rfl, by unfold sumsB; rw [Q1.out, Q2.out]; rfl, S1.out, S2.out, fun i hi j hj => HJ.out i (by omega) j hj⟩
      have HOK := Lib.hid hok; clear hok
      go_wp2
      go_ret
      exact ⟨ret_bool HOK.out.symm, v2.trans hd.ext⟩
set_option maxHeartbeats 3200000 in
theorem implIsTransport_b (b : Bool) (v : Value) (T : Tr) (w : World) (hb : trB T = b) (h : TrR w v T) : Calls Try.prog 55 #[v] w fun e w' => e = .returned (.bool b) ∧ Ext w w' := by
  subst hb
  have H := Lib.hid h
  obtain ⟨a0, c0, a1, c1, a2, c2, a3, c3, rfl, n0, n1, n2, n3⟩ := h.form
  clear h
  have u0 := (Ext.refl w).alloc (.cells #[.slice a0 T.rows.length c0, .slice a1 T.cols.length c1, .slice a2 T.lo.length c2, .slice a3 T.hi.length c3] 30)
  have b0 := Box.new w 30 #[.slice a0 T.rows.length c0, .slice a1 T.cols.length c1, .slice a2 T.lo.length c2, .slice a3 T.hi.length c3] rfl
  have k0 := b0.cell 0 (by simp)
  have k1 := b0.cell 1 (by simp)
  have k2 := b0.cell 2 (by simp)
  have k3 := b0.cell 3 (by simp)
  have no : ¬ TrOk T → trB T = false := trB_false
  have NO := Lib.hid no; clear no
  cases r1 : sumsB T.rows
  · have hr := NO.out (fun hh => by have := hh.1; rw [r1] at this; cases this)
    have HR := Lib.hid hr; clear hr
    have R1 := Lib.hid r1; clear r1
    go_enter Try.func55, Try.ntmps55
    go_wp2_with fail
    refine (areSums_b false _ T.rows _ R1.out (H.out.f0.ext u0)).mono ?_
    rintro e w' ⟨rfl, rfl⟩
    go_wp2
    go_ret
    exact ⟨ret_bool HR.out.symm, u0⟩
  have R1 := Lib.hid r1; clear r1
  cases q1 : sumsB T.cols
  · have hr := NO.out (fun hh => by have := hh.2.1; rw [q1] at this; cases this)
    have HR := Lib.hid hr; clear hr
    have Q1 := Lib.hid q1; clear q1
    go_enter Try.func55, Try.ntmps55
    go_wp2_with fail
    refine (areSums_b true _ T.rows _ R1.out (H.out.f0.ext u0)).mono ?_
    rintro e w' ⟨rfl, rfl⟩
    go_wp2_with fail
    refine (areSums_b false _ T.cols _ Q1.out (H.out.f1.ext u0)).mono ?_
    rintro e w' ⟨rfl, rfl⟩
    go_wp2
    go_ret
    exact ⟨ret_bool HR.out.symm, u0⟩
  have Q1 := Lib.hid q1; clear q1
  cases s1 : shapeB T.rows.length T.cols.length T.lo
  · have hr := NO.out (fun hh => by have := hh.2.2.1; rw [s1] at this; cases this)
    have HR := Lib.hid hr; clear hr
    have S1 := Lib.hid s1; clear s1
    go_enter Try.func55, Try.ntmps55
    go_wp2_with fail
    refine (areSums_b true _ T.rows _ R1.out (H.out.f0.ext u0)).mono ?_
    rintro e w' ⟨rfl, rfl⟩
    go_wp2_with fail
    refine (areSums_b true _ T.cols _ Q1.out (H.out.f1.ext u0)).mono ?_
    rintro e w' ⟨rfl, rfl⟩
    go_wp2_with fail
    refine (hasShape_b false _ T.lo _ _ _ S1.out (H.out.f2.ext u0)).mono ?_
    rintro e w' ⟨rfl, rfl⟩
    go_wp2
    go_ret
    exact ⟨ret_bool HR.out.symm, u0⟩
  have S1 := Lib.hid s1; clear s1
  cases s2 : shapeB T.rows.length T.cols.length T.hi
  · have hr := NO.out (fun hh => by have := hh.2.2.2.1; rw [s2] at this; cases this)
    have HR := Lib.hid hr; clear hr
    have S2 := Lib.hid s2; clear s2
    go_enter Try.func55, Try.ntmps55
    go_wp2_with fail
    refine (areSums_b true _ T.rows _ R1.out (H.out.f0.ext u0)).mono ?_
    rintro e w' ⟨rfl, rfl⟩
    go_wp2_with fail
    refine (areSums_b true _ T.cols _ Q1.out (H.out.f1.ext u0)).mono ?_
    rintro e w' ⟨rfl, rfl⟩
    go_wp2_with fail
    refine (hasShape_b true _ T.lo _ _ _ S1.out (H.out.f2.ext u0)).mono ?_
    rintro e w' ⟨rfl, rfl⟩
    go_wp2_with fail
    refine (hasShape_b false _ T.hi _ _ _ S2.out (H.out.f3.ext u0)).mono ?_
    rintro e w' ⟨rfl, rfl⟩
    go_wp2
    go_ret
    exact ⟨ret_bool HR.out.symm, u0⟩
  have S2 := Lib.hid s2; clear s2
  have hs1 := shapeB_true.1 S1.out
  have hs2 := shapeB_true.1 S2.out
  have hlo : T.lo.length = T.rows.length := by omega
  have hhi : T.hi.length = T.rows.length := by omega
  have HS : Hid (∀ i, i < T.lo.length → (rowAt T.lo i).length = T.cols.length ∧ (rowAt T.hi i).length = T.cols.length) := Lib.hid (fun i hi => by have h1 := hs1.2 i hi; have h2 := hs2.2 i (by omega); omega)
  have HLO := Lib.hid hlo; clear hlo
  have HHI := Lib.hid hhi; clear hhi
  clear hs1 hs2
  have g2 : GridA (w.alloc (.cells #[.slice a0 T.rows.length c0, .slice a1 T.cols.length c1, .slice a2 T.lo.length c2, .slice a3 T.hi.length c3] 30)) a2 T.lo := by
    obtain ⟨_, _, e, _, _, g⟩ := H.out.f2.ext u0
    cases e; exact g
  have g3 : GridA (w.alloc (.cells #[.slice a0 T.rows.length c0, .slice a1 T.cols.length c1, .slice a2 T.lo.length c2, .slice a3 T.hi.length c3] 30)) a3 T.hi := by
    obtain ⟨_, _, e, _, _, g⟩ := H.out.f3.ext u0
    cases e; exact g
  have G2 := Lib.hid g2; clear g2
  have G3 := Lib.hid g3; clear g3
  go_enter Try.func55, Try.ntmps55
  go_wp2_with fail
  refine (areSums_b true _ T.rows _ R1.out (H.out.f0.ext u0)).mono ?_
  rintro e w' ⟨rfl, rfl⟩
  go_wp2_with fail
  refine (areSums_b true _ T.cols _ Q1.out (H.out.f1.ext u0)).mono ?_
  rintro e w' ⟨rfl, rfl⟩
  go_wp2_with fail
  refine (hasShape_b true _ T.lo _ _ _ S1.out (H.out.f2.ext u0)).mono ?_
  rintro e w' ⟨rfl, rfl⟩
  go_wp2_with fail
  refine (hasShape_b true _ T.hi _ _ _ S2.out (H.out.f3.ext u0)).mono ?_
  rintro e w' ⟨rfl, rfl⟩
  go_wp2
  go_loop [44] (fun i => ∃ k : Nat, k ≤ T.lo.length ∧ i = .int .i64 k ∧ (∀ i', i' < k → ∀ j, j < (rowAt T.lo i').length → cellOk (ix (rowAt T.lo i') j) (ix (rowAt T.hi i') j))) (fun i => T.lo.length - (intOf i).toNat)
  case atStart => exact ⟨0, Nat.zero_le _, rfl, fun i hi => by omega⟩
  case round =>
    obtain ⟨k, hk, rfl, hj⟩ := hrel
    have HJ := Lib.hid hj; clear hj
    by_cases hlt : k < T.lo.length
    · obtain ⟨bl, ol, al, cl, rfl, hcl, l1_, l2_, l3_⟩ := G2.out.at_ hlt
      have hkh : k < T.hi.length := by have h1 := HLO.out; have h2 := HHI.out; omega
      obtain ⟨bh, oh, ah, ch, rfl, hch, h1_, h2_, h3_⟩ := G3.out.at_ hkh
      have L3 := Lib.hid l3_; clear l3_
      have H3 := Lib.hid h3_; clear h3_
      have hrl := HS.out k hlt
      have HRL := Lib.hid hrl; clear hrl
      go_wp2
      go_loop [51] (fun i => ∃ l : Nat, l ≤ (rowAt T.lo k).length ∧ i = .int .i64 l ∧ (∀ j, j < l → cellOk (ix (rowAt T.lo k) j) (ix (rowAt T.hi k) j))) (fun i => (rowAt T.lo k).length - (intOf i).toNat)
      case atStart => exact ⟨0, Nat.zero_le _, rfl, fun i hi => by omega⟩
      case round =>
        obtain ⟨l, hl, rfl, hjj⟩ := hrel
        have HJJ := Lib.hid hjj; clear hjj
        by_cases hlt2 : l < (rowAt T.lo k).length
        · have hlh : l < (rowAt T.hi k).length := by have := HRL.out; omega
          obtain ⟨bx, ox, rfl, hx⟩ := L3.out l hlt2
          obtain ⟨bz, oz, rfl, hz⟩ := H3.out l hlh
          have hno : ¬ cellOk (ix (rowAt T.lo k) l) (ix (rowAt T.hi k) l) → trB T = false := fun hh => NO.out (fun h3 => hh (h3.2.2.2.2 k hlt l hlt2))
          have HNO := Lib.hid hno; clear hno
          by_cases t1 : ix (rowAt T.lo k) l < 0
          · go_wp2
            go_ret
            exact ⟨ret_bool (HNO.out (by unfold cellOk; omega)).symm, u0⟩
          by_cases t2 : ix (rowAt T.hi k) l < ix (rowAt T.lo k) l
          · go_wp2
            go_ret
            exact ⟨ret_bool (HNO.out (by unfold cellOk; omega)).symm, u0⟩
          by_cases t3 : 100000 < ix (rowAt T.hi k) l
          · go_wp2
            go_ret
            exact ⟨ret_bool (HNO.out (by unfold cellOk; omega)).symm, u0⟩
          have HOK : Hid (cellOk (ix (rowAt T.lo k) l) (ix (rowAt T.hi k) l)) := Lib.hid (by unfold cellOk; omega)
          go_wp2
          go_round
          case rel => exact ⟨l + 1, by omega, by go_num, fun j hj => by
            by_cases e : j = l
            · subst e; exact HOK.out
            · exact HJJ.out j (by omega)⟩
          case measure => simp [intOf]; omega
        · go_wp2
          go_round
          case rel => exact ⟨k + 1, by omega, by go_num, fun i' hi' j hj => by
            by_cases e : i' = k
            · subst e; exact HJJ.out j (by omega)
            · exact HJ.out i' (by omega) j hj⟩
          case measure => simp [intOf]; omega
    · have hok : trB T = true := trB_true.2 ⟨R1.out, Q1.out, S1.out, S2.out, fun i hi j hj => HJ.out i (by omega) j hj⟩
      have HOK := Lib.hid hok; clear hok
      go_wp2
      go_ret
      exact ⟨ret_bool HOK.out.symm, u0⟩
end Go.Proofs.Ytjpomfdmgaambaa
