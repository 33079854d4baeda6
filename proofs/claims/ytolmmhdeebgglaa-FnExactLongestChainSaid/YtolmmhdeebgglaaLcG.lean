/- The longest chain of tables of a plan: the spec's LongestChain. -/
import Derived.Test.YtolmmhdeebgglaaLcH
import Derived.Test.YtolmmhdeebgglaaApp
import Derived.BigQuiet
namespace Go.Proofs.Ytolmmhdeebgglaa
open Go.RowKit

noncomputable def lcV (par : List Int) (s : List Vr) (l : List Ta) : List Int := if planB par s l = true then topL l.length (ltL par s l) l.length else []
def lastN (out : List Int) : Nat := (ix out (out.length - 1)).toNat
theorem lastN_snoc (pre : List Int) (k : Nat) : lastN (pre ++ [(k : Int)]) = k := by
  have : ix (pre ++ [(k : Int)]) pre.length = (k : Int) := by simp [ix, List.getD]
  simp [lastN, this]
/-- what the greedy choice has found so far -/
def ChS (n : Nat) (lt : Nat → Nat → Bool) (w : Nat) (out : List Int) : Prop :=
  (out = [] ∧ (∀ j, j < n → hgt n lt j ≤ w) ∧ (w = 0 ∨ ∃ j, j < n ∧ hgt n lt j = w)) ∨
  (∃ (pre : List Int) (a : Nat), out = pre ++ [(a : Int)] ∧ a < n ∧ hgt n lt a = w + 1 ∧ pre ++ chn n lt a = topL n lt n)
def Sel (n : Nat) (lt : Nat → Nat → Bool) (w : Nat) (out : List Int) (j : Nat) : Prop := hgt n lt j = w ∧ (out = [] ∨ lt j (lastN out) = true)
theorem ChS.pick {n : Nat} {lt : Nat → Nat → Bool} {w : Nat} {out : List Int} (hs : Strict n lt) (h : ChS n lt w out) (hw : 0 < w) :
    ∃ t, t < n ∧ Sel n lt w out t ∧ (∀ j, j < t → ¬ Sel n lt w out j) ∧ ChS n lt (w - 1) (out ++ [(t : Int)]) := by
  rcases h with ⟨rfl, h1, h2⟩ | ⟨pre, a, rfl, ha, h1, h2⟩
  · rcases h2 with h2 | ⟨j, hj, h2⟩
    · omega
    · obtain ⟨i, hi, e1, e2, e3⟩ := topL_is hs (by omega : 0 < n)
      have e4 : hgt n lt i = w := by have := h1 i hi; have := e2 j hj; omega
      refine ⟨i, hi, ⟨e4, .inl rfl⟩, fun k hk hsel => ?_, .inr ⟨[], i, rfl, hi, by omega, e1.symm⟩⟩
      have := e3 k hk
      have := hsel.1
      omega
  · rcases chn_next hs ha with ⟨_, e⟩ | ⟨k, hk, hl, e1, e2, e3⟩
    · omega
    · refine ⟨k, hk, ⟨by omega, .inr (by rw [lastN_snoc]; exact hl)⟩, fun j hj hsel => ?_, .inr ⟨pre ++ [(a : Int)], k, rfl, hk, by omega, ?_⟩⟩
      · have h3 := hsel.1
        rcases hsel.2 with h4 | h4
        · simp at h4
        · rw [lastN_snoc] at h4
          have := e3 j hj h4
          omega
      · rw [← h2, e1]; simp
theorem ChS.end_ {n : Nat} {lt : Nat → Nat → Bool} {out : List Int} (hs : Strict n lt) (h : ChS n lt 0 out) : out = topL n lt n := by
  rcases h with ⟨rfl, h1, _⟩ | ⟨pre, a, rfl, ha, h1, h2⟩
  · by_cases hn : 0 < n
    · have := h1 0 hn
      have := hgt_pos hs hn
      omega
    · have : n = 0 := by omega
      subst this
      rfl
  · rcases chn_next hs ha with ⟨e, _⟩ | ⟨k, hk, _, _, e2, _⟩
    · rw [← h2, e]
    · have := hgt_pos hs hk; omega
theorem ChS.last {n : Nat} {lt : Nat → Nat → Bool} {w : Nat} {out : List Int} (h : ChS n lt w out) : out = [] ∨ ∃ (pre : List Int) (a : Nat), out = pre ++ [(a : Int)] ∧ a < n := by
  rcases h with ⟨h, _⟩ | ⟨pre, a, e, ha, _⟩
  · exact .inl h
  · exact .inr ⟨pre, a, e, ha⟩
theorem ChS.le {n : Nat} {lt : Nat → Nat → Bool} {w : Nat} {out : List Int} (hs : Strict n lt) (h : ChS n lt w out) : w ≤ n := by
  rcases h with ⟨_, _, h2⟩ | ⟨pre, a, _, ha, h1, _⟩
  · rcases h2 with h2 | ⟨j, hj, e⟩
    · omega
    · have := hgt_len hs hj; omega
  · have := hgt_len hs ha; omega
theorem ChS.len {n : Nat} {lt : Nat → Nat → Bool} {w : Nat} {out : List Int} (hs : Strict n lt) (h : ChS n lt w out) : out.length ≤ n := by
  rcases h with ⟨rfl, _, _⟩ | ⟨pre, a, rfl, ha, h1, h2⟩
  · simp
  · obtain ⟨i, hi, e1, _, _⟩ := topL_is hs (by omega : 0 < n)
    have h3 := hgt_len hs hi
    have h4 := congrArg List.length h2
    rw [e1] at h4
    unfold hgt at h1 h3
    simp at h4 ⊢
    omega

set_option maxRecDepth 100000 in
set_option maxHeartbeats 6400000 in
theorem specChain_c (v1 : Value) (T : Ge) (v2 : Value) (s : List Vr) (v3 : Value) (l : List Ta) (w : World) (h1 : GeR w v1 T) (h2 : Vrs w v2 s) (h3 : Tabs w v3 l) (hw : WfV s) :
    Calls Try.prog 23 #[v1, v2, v3] w (RetInts (fun v' => .tuple #[v', .bool (planB T.par s l)]) w (lcV T.par s l)) := by
  have HW := Lib.hid hw; clear hw
  have R1 := Lib.hid h1
  have R2 := Lib.hid h2; clear h2
  have R3 := Lib.hid h3
  obtain ⟨y1, rfl, i1⟩ := h1
  clear i1
  obtain ⟨a3, c3, rfl, e1, e2, g3⟩ := h3
  have u0 := (Ext.refl w).alloc (.cells #[y1] 33)
  have b1 := Box.new w 33 #[y1] rfl
  have c1 := b1.cell 0 (by simp)
  have R1 := Lib.hid (R1.out.ext u0)
  have R2 := Lib.hid (R2.out.ext u0)
  have R3 := Lib.hid (R3.out.ext u0)
  have G3 := Lib.hid (TabsA.ext g3 u0); clear g3
  rcases ep : planB T.par s l with _ | _
  · have hV : lcV T.par s l = [] := by simp [lcV, ep]
    rw [hV]
    have HP := Lib.hid ep
    clear hV ep
    go_enter Try.func23, Try.ntmps23
    go_wp2_with fail
    refine (nPlan_b false _ _ _ T s l _ HP.out R1.out R2.out R3.out HW.out).mono ?_
    rintro e w1 ⟨rfl, u1⟩
    go_wp2
    go_ret2
    exact ⟨_, rfl, Own.nil, u0.trans u1⟩
  have hV : lcV T.par s l = topL l.length (ltL T.par s l) l.length := by simp [lcV, ep]
  rw [hV]
  have HP := Lib.hid ep
  have HPP := Lib.hid (planB_true.1 ep)
  have h20 := HPP.out.2.2.1
  clear hV ep
  have HST := Lib.hid (ltL_strict HPP.out)
  obtain ⟨n, hn⟩ : ∃ n, l.length = n := ⟨_, rfl⟩
  obtain ⟨LT, hLT⟩ : ∃ L, ltL T.par s l = L := ⟨_, rfl⟩
  rw [hn] at e1 h20 HST R3 ⊢
  rw [hLT] at HST ⊢
  have HLT := Lib.hid hLT; clear hLT
  have HN := Lib.hid hn; clear hn
  go_enter Try.func23, Try.ntmps23
  go_wp2_with fail
  refine (nPlan_b true _ _ _ T s l _ HP.out R1.out R2.out R3.out HW.out).mono ?_
  rintro e w1 ⟨rfl, u1⟩
  have b1 := b1.ext u1
  have uu := u0.trans u1
  have R1 := Lib.hid (R1.out.ext u1)
  have R2 := Lib.hid (R2.out.ext u1)
  have G3 := Lib.hid (TabsA.ext G3.out u1)
  have R3 := Lib.hid (R3.out.ext u1)
  clear u0 u1
  have c1 := b1.cell 0 (by simp)
  go_wp2_with fail
  refine (lHeights_c _ _ _ T s l _ R1.out R2.out R3.out HPP.out).mono ?_
  rintro e w2 ⟨v4, hs_, rfl, ih, hl4, hh4, u2⟩
  obtain ⟨a4, c4, rfl, p4, q4, g4⟩ := ih
  rw [HN.out, HLT.out] at hh4
  rw [HN.out] at hl4
  rw [hl4] at p4 ⊢
  have HL4 := Lib.hid hl4; clear hl4
  have HH4 := Lib.hid hh4; clear hh4
  have G4 := Lib.hid g4; clear g4
  have HGL := Lib.hid (fun j (hj : j < n) => hgt_len HST.out hj)
  go_wp2_with fail
  go_loop [9, 26] (fun x i => ∃ (m wt : Nat), m ≤ n ∧ wt ≤ n ∧ x = .int .i64 wt ∧ i = .int .i64 m ∧ (∀ j, j < m → hgt n LT j ≤ wt) ∧ (wt = 0 ∨ ∃ j, j < m ∧ hgt n LT j = wt)) (fun _ i => n - (intOf i).toNat)
  case atStart => exact ⟨0, 0, Nat.zero_le _, Nat.zero_le _, rfl, rfl, fun j hj => by omega, .inl rfl⟩
  case round =>
    obtain ⟨m, wt, hm, hwt, rfl, rfl, hj, he⟩ := hrel
    by_cases hlt : m < n
    · obtain ⟨b5, o5, rfl, hc⟩ := G4.out m (by rw [HL4.out]; exact hlt)
      rw [HH4.out m hlt] at hc
      have hg := HGL.out m hlt
      have HX : Hid ((∀ j, j < m + 1 → hgt n LT j ≤ max wt (hgt n LT m)) ∧ (max wt (hgt n LT m) = 0 ∨ ∃ j, j < m + 1 ∧ hgt n LT j = max wt (hgt n LT m))) := Lib.hid ⟨fun j hj' => by
        by_cases e : j = m
        · subst e; omega
        · have := hj j (by omega); omega, by
        by_cases e : wt ≤ hgt n LT m
        · exact .inr ⟨m, by omega, by omega⟩
        · rcases he with he | ⟨j, a, b⟩
          · omega
          · exact .inr ⟨j, by omega, by omega⟩⟩
      obtain ⟨H, hH⟩ : ∃ H, hgt n LT m = H := ⟨_, rfl⟩
      rw [hH] at hc hg HX
      clear hH hj he
      go_wp2_with fail
      refine (l1Most_c _ _ _).mono ?_
      rintro e w3 ⟨rfl, hw3⟩
      rw [hw3]
      go_wp2
      go_round
      case rel => exact ⟨m + 1, max wt H, by omega, by omega, by unfold imax; congr 1; omega, by go_num, HX.out⟩
      case measure => simp [intOf]; omega
    · have HCS : Hid (ChS n LT wt []) := Lib.hid (.inl ⟨rfl, fun j hj' => hj j (by omega), by
        rcases he with he | ⟨j, a, b⟩
        · exact .inl he
        · exact .inr ⟨j, by omega, b⟩⟩)
      clear hj he
      have hx12 := uu.trans u2
      go_wp2_with fail
      go_loopw [9, 12] (fun x r wr => ∃ (wt : Nat) (out : List Int), x = .int .i64 wt ∧ ChS n LT wt out ∧ IRow w2.heap.size wr r out ∧ Ext w2 wr) (fun x _ _ => (intOf x).toNat)
      case atStart => exact ⟨wt, [], rfl, HCS.out, IRow.nil, Ext.refl _⟩
      case round =>
        clear HCS hwt
        obtain ⟨wt, out, rfl, hcs, hr, hx⟩ := hrel
        obtain ⟨wo, rfl⟩ : ∃ wo : World, wo = wr := ⟨_, rfl⟩
        have HCS := Lib.hid hcs; clear hcs
        have HO := Lib.hid hr; clear hr
        by_cases hw0 : 0 < wt
        · obtain ⟨tg, htg, hsel, hns, hnext⟩ := HCS.out.pick HST.out hw0
          have hol := HCS.out.len HST.out
          have hwn := HCS.out.le HST.out
          have HNX := Lib.hid hnext; clear hnext
          have HSL := Lib.hid hsel; clear hsel
          have HNS := Lib.hid hns; clear hns
          obtain ⟨ro, cro, hfe⟩ := HO.out.form
          subst hfe
          obtain ⟨Lo, hLo⟩ : ∃ L, out.length = L := ⟨_, rfl⟩
          rw [hLo] at hol HO ⊢
          have HOL := Lib.hid hLo; clear hLo
          go_wp2_with fail
          go_loopw [12, 40] (fun r i wr => ∃ m : Nat, m ≤ tg ∧ i = .int .i64 m ∧ r = .slice ro Lo cro ∧ IRow w2.heap.size wr (.slice ro Lo cro) out ∧ Ext w2 wr) (fun _ i _ => n - (intOf i).toNat)
          case atStart => exact ⟨0, Nat.zero_le _, rfl, rfl, HO.out, hx⟩
          case round =>
            clear HO hx
            obtain ⟨m, hm, rfl, rfl, hr, hxi⟩ := hrel
            obtain ⟨wi, rfl⟩ : ∃ wi : World, wi = wr := ⟨_, rfl⟩
            have HO := Lib.hid hr; clear hr
            have hlt1 : m < n := by omega
            obtain ⟨b7, o7, rfl, hc'⟩ := G4.out m (by rw [HL4.out]; exact hlt1)
            rw [HH4.out m hlt1] at hc'
            have hc := Ext.cell hxi hc'
            clear hc'
            have hg := HGL.out m hlt1
            have HTC0 : Hid (m = tg → ChS n LT (wt - 1) (out ++ [(m : Int)])) := Lib.hid (fun e => by rw [e]; exact HNX.out)
            have HMN : Hid (Sel n LT wt out m → m = tg) := Lib.hid (fun h => by
              by_cases e : m = tg
              · exact e
              · exact absurd h (HNS.out m (by omega)))
            have HMS : Hid (¬ Sel n LT wt out m → m < tg) := Lib.hid (fun h => by
              by_cases e : m = tg
              · rw [e] at h; exact absurd HSL.out h
              · omega)
            have HSE : Hid (Sel n LT wt out m ↔ hgt n LT m = wt ∧ (out = [] ∨ LT m (lastN out) = true)) := Lib.hid Iff.rfl
            obtain ⟨H, hH⟩ : ∃ H, hgt n LT m = H := ⟨_, rfl⟩
            rw [hH] at hc hg HSE
            clear hH
            by_cases hHw : H = wt
            case neg =>
              have hmt := HMS.out (fun h => hHw (HSE.out.1 h).1)
              have hq : ((H : Int) == (wt : Int)) = false := by simp; omega
              -- BEGIN cut ne
              clear HMN HMS HSE HTC0 HNX HSL HNS HGL HH4 G4 hg hHw HCS
              go_upto_region 16 with fail
              clear hc
              refine wp_region_quiet_ext (by kernel_rfl) (by kernel_rfl) ?_
              repeat (go_big_quiet_step (fail))
              refine wpQuiet_nil ?_
              intro ws hw'
              obtain ⟨⟨wz, us⟩, hw''⟩ := hw'
              subst hw''
              go_wp2
              go_roundw
              case rel => exact ⟨m + 1, by omega, by go_num, rfl, HO.out.ext us, hxi.trans us⟩
              case measure => simp [intOf]; omega
              -- END cut ne
            have hq : ((H : Int) == (wt : Int)) = true := by simp; omega
            rcases HCS.out.last with hout | ⟨pre, a, hout, ha⟩
            · have hmt := HMN.out (HSE.out.2 ⟨hHw, .inl hout⟩)
              have HTC := Lib.hid (HTC0.out hmt)
              have hLo0 : Lo = 0 := by rw [← HOL.out, hout]; rfl
              have hq2 : ((Lo : Int) == 0) = true := by simp; exact hLo0
              clear hmt hout hLo0
              -- BEGIN cut first
              clear HMN HMS HSE HTC0 HNX HSL HNS HGL HH4 G4 hg hHw HCS
              go_upto_region 16 with fail
              clear hc
              refine wp_region_quiet_ext (by kernel_rfl) (by kernel_rfl) ?_
              repeat (go_big_quiet_step (fail))
              refine wpQuiet_nil ?_
              intro ws hw'
              obtain ⟨⟨wz, us⟩, hw''⟩ := hw'
              subst hw''
              have hown := HO.out.ext (us.alloc (.cells #[.int .i64 m] 3))
              have HOWN := Lib.hid hown
              unfold IRow at hown
              rw [HOL.out] at hown
              have HOW2 := Lib.hid hown; clear hown
              have hs1 := hxi.size
              have hs2 := us.size
              go_wp2_with (at_builtin; go_loud (refine app1 _ rfl _ _ 22 3 rfl (.int .i64 0) 8 Try.underlying22 info_int rfl w2.heap.size _ Lo _ rfl HOW2.out ws.heap.size 1 3 (.int .i64 m) rfl (Box.new _ _ _ rfl) rfl (by omega) (by omega) (by simp; omega) ?_))
              intro g cp w4 hown3 hgrow hat hlt3
              have HX3 := Lib.hid (HOWN.out.grew ((hxi.trans us).alloc _) (Nat.le_refl _) hgrow)
              have HO3 := Lib.hid hown3; clear hown3
              clear hgrow
              go_wp2
              go_roundw
              case rel => exact ⟨wt - 1, out ++ [(m : Int)], by go_num, HTC.out, IRow.push (by rw [HOL.out]; exact HO3.out), HX3.out⟩
              case measure => simp [intOf]; omega
              -- END cut first
            · obtain ⟨P, hP⟩ : ∃ P, pre.length = P := ⟨_, rfl⟩
              have hLo1 : Lo = P + 1 := by rw [← HOL.out, hout, ← hP]; simp
              have hla : lastN out = a := by rw [hout]; exact lastN_snoc pre a
              have hix : ix out P = (a : Int) := by rw [hout, ← hP]; simp [ix, List.getD]
              subst hLo1
              have HLA := Lib.hid hla; clear hla
              rw [HLA.out] at HSE
              have hne : out ≠ [] := by rw [hout]; simp
              have HOUT := Lib.hid hne
              clear hne hout hP
              have hoi := (HO.out.own (Nat.le_refl _)).ints
              obtain ⟨a6, c6, e6, _, _, g6⟩ := hoi
              simp only [Value.slice.injEq] at e6
              obtain ⟨rfl, hz6, rfl⟩ := e6
              clear hz6
              obtain ⟨b8, o8, rfl, hc8⟩ := g6 P (by rw [HOL.out]; omega)
              rw [hix] at hc8
              clear g6 hix
              have hlt2 : a < n := ha
              obtain ⟨b1_, o1_, x11, m11, y11, x12, m12, y12, rfl, q10, q11, q12, q13, RK1⟩ := (G3.out).elt (k := m) (by rw [HN.out]; exact hlt1)
              have RT1 := Lib.hid RK1; clear RK1
              have HT1 := Lib.hid (HPP.out.2.2.2 m (by rw [HN.out]; exact hlt1))
              obtain ⟨t1, ht1⟩ : ∃ t, taAt l m = t := ⟨_, rfl⟩
              rw [ht1] at q10 q13 RT1 HT1
              have HE1 := Lib.hid ht1; clear ht1
              obtain ⟨A1, hA1⟩ : ∃ A, t1.level = A := ⟨_, rfl⟩
              obtain ⟨B1, hB1⟩ : ∃ A, t1.sum = A := ⟨_, rfl⟩
              rw [hA1] at q10 RT1
              rw [hB1] at q13 RT1
              clear hA1 hB1
              have F10 : ∀ z : ExtOf wi, z.w.cell? ⟨b1_, o1_ + m * 4, none⟩ = some (.int .i64 A1) := fun z => Ext.cell ((u2.trans hxi).trans z.ext) q10
              have F11 : ∀ z : ExtOf wi, z.w.cell? ⟨b1_, o1_ + m * 4 + 1, none⟩ = some (.slice x11 m11 y11) := fun z => Ext.cell ((u2.trans hxi).trans z.ext) q11
              have F12 : ∀ z : ExtOf wi, z.w.cell? ⟨b1_, o1_ + m * 4 + 2, none⟩ = some (.slice x12 m12 y12) := fun z => Ext.cell ((u2.trans hxi).trans z.ext) q12
              have F13 : ∀ z : ExtOf wi, z.w.cell? ⟨b1_, o1_ + m * 4 + 3, none⟩ = some (.int .i64 B1) := fun z => Ext.cell ((u2.trans hxi).trans z.ext) q13
              clear q10 q11 q12 q13
              obtain ⟨b2_, o2_, x21, m21, y21, x22, m22, y22, eq2, q20, q21, q22, q23, RK2⟩ := (G3.out).elt (k := a) (by rw [HN.out]; exact hlt2)
              simp only [Option.some.injEq, Addr.mk.injEq, and_true] at eq2
              obtain ⟨rfl, rfl⟩ := eq2
              have RT2 := Lib.hid RK2; clear RK2
              have HT2 := Lib.hid (HPP.out.2.2.2 a (by rw [HN.out]; exact hlt2))
              obtain ⟨t2, ht2⟩ : ∃ t, taAt l a = t := ⟨_, rfl⟩
              rw [ht2] at q20 q23 RT2 HT2
              have HE2 := Lib.hid ht2; clear ht2
              obtain ⟨A2, hA2⟩ : ∃ A, t2.level = A := ⟨_, rfl⟩
              obtain ⟨B2, hB2⟩ : ∃ A, t2.sum = A := ⟨_, rfl⟩
              rw [hA2] at q20 RT2
              rw [hB2] at q23 RT2
              clear hA2 hB2
              have F20 : ∀ z : ExtOf wi, z.w.cell? ⟨b1_, o1_ + a * 4, none⟩ = some (.int .i64 A2) := fun z => Ext.cell ((u2.trans hxi).trans z.ext) q20
              have F21 : ∀ z : ExtOf wi, z.w.cell? ⟨b1_, o1_ + a * 4 + 1, none⟩ = some (.slice x21 m21 y21) := fun z => Ext.cell ((u2.trans hxi).trans z.ext) q21
              have F22 : ∀ z : ExtOf wi, z.w.cell? ⟨b1_, o1_ + a * 4 + 2, none⟩ = some (.slice x22 m22 y22) := fun z => Ext.cell ((u2.trans hxi).trans z.ext) q22
              have F23 : ∀ z : ExtOf wi, z.w.cell? ⟨b1_, o1_ + a * 4 + 3, none⟩ = some (.int .i64 B2) := fun z => Ext.cell ((u2.trans hxi).trans z.ext) q23
              clear q20 q21 q22 q23
              have F8 : ∀ z : ExtOf wi, z.w.cell? ⟨b8, o8 + P, none⟩ = some (.int .i64 a) := fun z => Ext.cell z.ext hc8
              have F9 : ∀ z : ExtOf wi, z.w.cell? ⟨w.heap.size, 0, none⟩ = some y1 := fun z => (b1.ext ((u2.trans hxi).trans z.ext)).cell 0 (by simp)
              have HTT : Hid (LT m a = ltT T.par s t1 t2) := Lib.hid (by rw [← HLT.out]; unfold ltL; rw [HE1.out, HE2.out])
              have hq2 : ((P : Int) + 1 == 0) = false := by simp; omega
              have hi1 : (0 : Int) ≤ (P : Int) := by omega
              have hi2 : (a : Int) < (n : Int) := by omega
              have hi3 : (m : Int) < (n : Int) := by omega
              have hi4 : (P : Int) < (P : Int) + 1 := by omega
              obtain ⟨E, hE⟩ : ∃ E, ltT T.par s t1 t2 = E := ⟨_, rfl⟩
              rw [hE] at HTT
              have HEE := Lib.hid hE; clear hE
              have HC1 : Hid (∀ z : ExtOf wi, Calls Try.prog 46 #[.agg #[y1], v2, .agg #[.int .i64 A1, .slice x11 m11 y11, .slice x12 m12 y12, .int .i64 B1], .agg #[.int .i64 A2, .slice x21 m21 y21, .slice x22 m22 y22, .int .i64 B2]] z.w fun e w' => e = .returned (.bool E) ∧ Ext z.w w') := Lib.hid (fun z =>
                lLess_b E _ _ _ _ T s t1 t2 _ HEE.out (R1.out.ext ((u2.trans hxi).trans z.ext)) (R2.out.ext ((u2.trans hxi).trans z.ext)) (RT1.out.ext ((u2.trans hxi).trans z.ext)) (RT2.out.ext ((u2.trans hxi).trans z.ext)) HPP.out.1 HPP.out.2.1 HT1.out HT2.out)
              cases E
              · have hmt := HMS.out (fun h => by rcases (HSE.out.1 h).2 with h1 | h1; exact HOUT.out h1; rw [HTT.out] at h1; cases h1)
                -- BEGIN cut no
                go_upto_region 16 with fail
                refine wp_region_quiet_ext (by kernel_rfl) (by kernel_rfl) ?_
                repeat (go_big_quiet_step (((go_at_call 46; with_reducible exact calls_ext (HC1.out _)))))
                refine wpQuiet_nil ?_
                intro ws hw'
                obtain ⟨⟨wz, us⟩, hw''⟩ := hw'
                subst hw''
                go_wp2
                go_roundw
                case rel => exact ⟨m + 1, by omega, by go_num, rfl, HO.out.ext us, hxi.trans us⟩
                case measure => simp [intOf]; omega
                -- END cut no
              · have hmt := HMN.out (HSE.out.2 ⟨hHw, .inr HTT.out⟩)
                have HTC := Lib.hid (HTC0.out hmt)
                clear hmt
                -- BEGIN cut yes
                go_upto_region 16 with fail
                refine wp_region_quiet_ext (by kernel_rfl) (by kernel_rfl) ?_
                repeat (go_big_quiet_step (((go_at_call 46; with_reducible exact calls_ext (HC1.out _)))))
                refine wpQuiet_nil ?_
                intro ws hw'
                obtain ⟨⟨wz, us⟩, hw''⟩ := hw'
                subst hw''
                have hown := HO.out.ext (us.alloc (.cells #[.int .i64 m] 3))
                have HOWN := Lib.hid hown
                unfold IRow at hown
                rw [HOL.out] at hown
                have HOW2 := Lib.hid hown; clear hown
                have hs1 := hxi.size
                have hs2 := us.size
                go_wp2_with (at_builtin; go_loud (refine app1 _ rfl _ _ 22 3 rfl (.int .i64 0) 8 Try.underlying22 info_int rfl w2.heap.size _ (P + 1) _ rfl HOW2.out ws.heap.size 1 3 (.int .i64 m) rfl (Box.new _ _ _ rfl) rfl (by omega) (by omega) (by simp; omega) ?_))
                intro g cp w4 hown3 hgrow hat hlt3
                have HX3 := Lib.hid (HOWN.out.grew ((hxi.trans us).alloc _) (Nat.le_refl _) hgrow)
                have HO3 := Lib.hid hown3; clear hown3
                clear hgrow
                go_wp2
                go_roundw
                case rel => exact ⟨wt - 1, out ++ [(m : Int)], by go_num, HTC.out, IRow.push (by rw [HOL.out]; exact HO3.out), HX3.out⟩
                case measure => simp [intOf]; omega
                -- END cut yes
        · have hw1 : wt = 0 := by omega
          have HE := Lib.hid (show ChS n LT 0 out by have h := HCS.out; rw [hw1] at h; exact h)
          clear hw1
          have hsu := hx12.size
          go_wp2
          go_ret2
          exact ⟨_, rfl, by rw [← HE.out.end_ HST.out]; exact (HO.out.own (Nat.le_refl _)).mono hsu (Nat.le_refl _), hx12.trans hx⟩
end Go.Proofs.Ytolmmhdeebgglaa
