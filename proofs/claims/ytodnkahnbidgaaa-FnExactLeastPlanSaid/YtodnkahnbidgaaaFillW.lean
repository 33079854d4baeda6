/- A greatest filling, the program's: fill. -/
import Derived.Test.YtodnkahnbidgaaaFillW0
import Derived.Test.YtodnkahnbidgaaaCell
import Derived.Test.YtodnkahnbidgaaaSums
import Derived.Deep.RegionWith
import Derived.Deep.RegionLaw
import Derived.Deep.CutRange
namespace Go.Proofs.Ytodnkahnbidgaaa
open Go.RowKit
open Fm

set_option maxRecDepth 100000 in
set_option maxHeartbeats 12800000 in
theorem fill_c (v : Value) (T : Tr) (w : World) (h : TrR w v T) (ho : TrOk T) :
    Calls Try.prog 96 #[v] w fun e w' => ∃ v' : Value, e = .returned v' ∧ Ext w w' ∧
      ((v' = .slice none 0 0 ∧ ¬ ∃ x, Fits (NetT T) x) ∨ ∃ (rvs : List Value) (X : List (List Int)), OwnG w.heap.size w'.heap.size w' v' rvs X ∧ Rc T.rows.length T.cols.length X ∧ ∃ A B, Cert (NetT T) (elOf X) A B) := by
  have H := Lib.hid h
  have HO := Lib.hid ho; clear ho
  obtain ⟨a0, c0, a1, c1, a2, c2, a3, c3, rfl, n0, n1, n2, n3⟩ := h.form
  clear h
  obtain ⟨d1, d2, d3, d4, d5, d6⟩ := HO.out.dims
  have D5 := Lib.hid d5
  have D6 := Lib.hid d6; clear d6
  obtain ⟨n, hn⟩ : ∃ n, T.rows.length = n := ⟨_, rfl⟩
  obtain ⟨m, hm⟩ : ∃ m, T.cols.length = m := ⟨_, rfl⟩
  rw [hn] at n0 d1 d2 d5
  rw [hm] at n1 d3 d4
  have HN := Lib.hid hn
  have HM := Lib.hid hm
  have HNT : Hid ((NetT T).n = n ∧ (NetT T).m = m) := Lib.hid ⟨hn, hm⟩
  obtain ⟨bl, ol, hal⟩ : ∃ b o, a2 = some ⟨b, o, none⟩ := by
    obtain ⟨_, _, e, _, _, g⟩ := H.out.f2
    obtain ⟨b, o, _, e2, _⟩ := g 0 (by omega)
    simp only [Value.slice.injEq, true_and] at e
    exact ⟨b, o, e.1.trans e2⟩
  subst hal
  have HTL : Hid (Grid w (.slice (some ⟨bl, ol, none⟩) n c2) T.lo) := Lib.hid (by have := H.out.f2; rwa [d5] at this)
  have HTM : Hid (Tame T.lo) := Lib.hid (HO.out.withinLo.tame HO.out)
  have HRC : Hid (Rc n m T.lo) := Lib.hid (by have := HO.out.rcLo; rwa [hn, hm] at this)
  rw [hn, hm]
  have u0 := (Ext.refl w).alloc (.cells #[.slice a0 n c0, .slice a1 m c1, .slice (some ⟨bl, ol, none⟩) n c2, .slice a3 T.hi.length c3] 38)
  have b0 := Box.new w 38 #[.slice a0 n c0, .slice a1 m c1, .slice (some ⟨bl, ol, none⟩) n c2, .slice a3 T.hi.length c3] rfl
  have k0 := b0.cell 0 (by simp)
  have k1 := b0.cell 1 (by simp)
  have k2 := b0.cell 2 (by simp)
  have k3 := b0.cell 3 (by simp)
  have hmk := run_make_row' (P := Try.prog) 22 36 (.slice none 0 0) 24 Try.underlying22 info_ints rfl .i64 .i64 (n + m + 2) (by omega) (by omega)
  have hmk2 := run_make_row' (P := Try.prog) 36 3 (.int .i64 0) 8 Try.underlying36 info_int rfl .i64 .i64 (n + m + 2) (by omega) (by omega)
  have hcast : ((n + m + 2 : Nat) : Int) = (n : Int) + (m : Int) + 2 := by omega
  rw [hcast] at hmk hmk2
  clear hcast
  rw [d5]
  rw [hn, hm, d5] at H
  clear hn hm d5
  have hres : ∀ w', Ext w w' → Calls Try.prog 76 #[.agg #[.slice a0 n c0, .slice a1 m c1, .slice (some ⟨bl, ol, none⟩) n c2, .slice a3 T.hi.length c3], .slice (some ⟨bl, ol, none⟩) n c2, .int .i64 (-1)] w' fun e w'' => ∃ (ao : Option Addr) (rvs : List Value) (R : List (List Int)), e = .returned (.slice ao (n + m) (n + m)) ∧
      OwnGA w'.heap.size w''.heap.size w'' ao rvs R ∧ Sq (n + m) R ∧ (∀ a b, a < n + m → b < n + m → elOf R a b = resD n (elOf T.lo) (elOf T.hi) (elOf T.lo) (pastB m (-1)) a b) ∧ Ext w' w'' := fun w' u => by
    have := residual_c _ T _ T.lo (-1) w' (H.out.ext u) (HTL.out.ext u) HO.out HO.out.withinLo (by omega)
    rwa [HN.out, HM.out] at this
  have HRES := Lib.hid hres; clear hres
  go_enter Try.func96, Try.ntmps96
  go_wp2_with fail
  go_quiet (fail)
  go_wp2_with fail
  refine (HRES.out _ (u0.drewN _)).mono ?_
  rintro e w1 ⟨ai, rvi, I, rfl, oi, sqi, eli, ui⟩
  have v1 := (u0.drewN nq).trans ui
  have b1 := (b0.drewN nq).ext ui
  have OI := Lib.hid oi; clear oi
  have SQI := Lib.hid sqi; clear sqi
  have ELI := Lib.hid eli; clear eli
  have hz1 : w.heap.size < w1.heap.size := b1.lt
  obtain ⟨g0, hg0⟩ : ∃ g0, w1.heap.size = g0 := ⟨_, rfl⟩
  clear u0 ui b0 k0 k1 k2 k3
  obtain ⟨bi, oi, hai, _⟩ := OI.out.at_ (k := 0) (by rw [SQI.out.len]; omega)
  subst hai
  go_wp2
  go_loopw [31] (fun i wr => ∃ (k : Nat) (rvs : List Value) (R : List (List Int)), k ≤ n + m + 2 ∧ i = .int .i64 k ∧ R.length = n + m + 2 ∧ OwnGA g0 wr.heap.size wr (some ⟨g0, 0, none⟩) rvs R ∧ (∀ j, j < k → rowGood (n + m) I j (rowAt R j)) ∧ Ext w1 wr) (fun i _ => n + m + 2 - (intOf i).toNat)
  case atStart => exact ⟨0, List.replicate (n + m + 2) (.slice none 0 0), List.replicate (n + m + 2) [], Nat.zero_le _, rfl, List.length_replicate, OwnGA.made _ (n + m + 2) _ hg0 (Nat.le_refl _) (by simp [hg0]), fun j hj => by omega, (Ext.refl w1).alloc _⟩
  case round =>
    obtain ⟨k, rvs, R, hk, rfl, hRl, hG, hR, hx⟩ := hrel
    obtain ⟨wo, rfl⟩ : ∃ wo : World, wo = wr := ⟨_, rfl⟩
    have HG := Lib.hid hG; clear hG
    have HR := Lib.hid hR; clear hR
    have HRL := Lib.hid hRl; clear hRl
    by_cases hlt : k < n + m + 2
    · obtain ⟨b', o', e', q1, q2, q3, hc, hf⟩ := HG.out.at_ (k := k) (by rw [HRL.out]; exact hlt)
      simp only [Option.some.injEq, Addr.mk.injEq, and_true] at e'
      obtain ⟨rfl, rfl⟩ := e'
      rw [Nat.zero_add] at hc hf
      have E1 := (Ext.refl wo).alloc (.cells (madeCells #[.int .i64 0] (n + m + 2)) 3)
      have hc1 := Ext.cell E1 hc
      have hput := HG.out.putRow (k := k) (by rw [HRL.out]; exact hlt) E1 (Own.made wo (n + m + 2) (Nat.le_refl _) (Nat.lt_succ_self _) (by omega)) (by omega) (Nat.le_succ _)
      rw [Nat.zero_add, alloc_setCell q3] at hput
      have HPUT := Lib.hid hput; clear hput
      have hxp := (hx.setCell (a := ⟨g0, k, none⟩) (.slice (some ⟨wo.heap.size, 0, none⟩) (n + m + 2) (n + m + 2)) (by simp only; omega)).alloc (.cells (madeCells #[.int .i64 0] (n + m + 2)) 3)
      by_cases hlt2 : k < n + m
      · -- the row's cells, and the row that is copied
        obtain ⟨_, _, e', _, _, _, hc2, _⟩ := HPUT.out.at_ (k := k) (by rw [List.length_set, HRL.out]; exact hlt)
        simp only [Option.some.injEq, Addr.mk.injEq, and_true] at e'
        obtain ⟨rfl, rfl⟩ := e'
        rw [Nat.zero_add, rvAt_set, if_pos ⟨rfl, by rw [HG.out.len, HRL.out]; exact hlt⟩] at hc2
        have OI2 := OI.out.ext hxp
        obtain ⟨_, _, e', _, _, _, hc3, _⟩ := OI2.at_ (k := k) (by rw [SQI.out.len]; exact hlt2)
        simp only [Option.some.injEq, Addr.mk.injEq, and_true] at e'
        obtain ⟨rfl, rfl⟩ := e'
        obtain ⟨ar, cr, evr, r1, r2⟩ := OI2.rowForm (k := k) (by rw [SQI.out.len]; exact hlt2)
        have hir := (OI2.row k (by rw [SQI.out.len]; exact hlt2)).ints
        rw [evr] at hc3 hir
        obtain ⟨_, _, e4, _, _, hia⟩ := hir
        simp only [Value.slice.injEq, true_and] at e4
        obtain ⟨rfl, rfl⟩ := e4
        have hrl := SQI.out.row k hlt2
        rw [hrl] at hc3 r1
        have HSRC := Lib.hid (hia.cells (by rw [hrl]; omega)); clear hia
        have HRLI := Lib.hid hrl; clear hrl evr OI2
        obtain ⟨cs, hcs⟩ : ∃ cs, cs = (rowAt I k).map (Value.int .i64) := ⟨_, rfl⟩
        rw [← hcs] at HSRC
        have HCL : Hid (cs.length = n + m) := Lib.hid (by rw [hcs, List.length_map, HRLI.out])
        have HONE : Hid (∀ v ∈ cs, v.oneCell' = true) := Lib.hid (by intro u hu; rw [hcs] at hu; obtain ⟨x, _, rfl⟩ := List.mem_map.1 hu; rfl)
        have HCS := Lib.hid hcs; clear hcs
        obtain ⟨cur, hcur⟩ : ∃ cur : List Value, madeCells #[.int .i64 0] (n + m + 2) = cur.toArray := ⟨(madeCells #[.int .i64 0] (n + m + 2)).toList, by simp⟩
        have HCUL : Hid (cur.length = n + m + 2) := Lib.hid (by
          have := size_madeCells (#[.int .i64 0] : Array Value) (n + m + 2)
          rw [hcur] at this; simpa using this)
        have HBX : Hid (((wo.setCell ⟨g0, k, none⟩ (.slice (some ⟨wo.heap.size, 0, none⟩) (n + m + 2) (n + m + 2))).alloc (.cells (madeCells #[.int .i64 0] (n + m + 2)) 3)).heap[wo.heap.size]? = some (.cells cur.toArray 3 (0, 0))) := Lib.hid (by
          rw [← hcur]; exact Box.new _ _ _ (by simp))
        have HCUR := Lib.hid hcur; clear hcur
        go_wp2_with fail
        go_region_law (refine step_copy_splice rfl (.tmp 50) (.tmp 54) 36 36 rfl 3 Try.underlying36 (by kernel_rfl) _ _ _ _ _ _ rfl rfl wo.heap.size 0 cur 3 HBX.out cs (by rw [HCL.out]; simp) (fun _ => ⟨rfl, HSRC.out⟩) (by rw [HCL.out, HCUL.out]; omega) HONE.out wo.heap.size _ (Below.refl _ _) (Nat.le_refl _) ?_; intro w4 hg4 hb4)
        all_goals
          have hcop := (HPUT.out.ext (Ext.refl _).drew).copied (w' := w4) (k := k) (g := wo.heap.size) (n := n + m + 2) (ys := rowAt I k ++ [0, 0]) (by rw [List.length_set, HRL.out]; exact hlt)
            (by rw [rvAt_set, if_pos ⟨rfl, by rw [HG.out.len, HRL.out]; exact hlt⟩]) (by simp) (by simp [HRLI.out]) (by omega) (by omega)
            (by rw [rowAt_set, if_pos ⟨rfl, by rw [HRL.out]; exact hlt⟩]; simp) hg4.out (splice_cells HCS.out HRLI.out HCUR.out) hb4
          have hsz4 := hb4.size
          simp only [World.size_drew, World.size_alloc, World.size_setCell] at hsz4
          have HCOP := Lib.hid (hcop.mono (Nat.le_refl _) hsz4); clear hcop
          have HX4 : Hid (Ext w1 w4) := Lib.hid (hxp.drew.of_upd (Upd.of_below hb4) (fun b hb => by have := hx.size; omega))
          clear hg4 hb4
          go_wp2
          go_roundw
          case rel =>
            refine ⟨k + 1, _, _, by omega, by go_num, ?_, HCOP.out, fun j hj => ?_, HX4.out⟩
            · simp [HRL.out]
            · rw [rowAt_set]
              by_cases e : j = k
              · rw [if_pos ⟨e, by rw [List.length_set, HRL.out]; exact hlt⟩, e]; exact rowGood.copied hlt2 HRLI.out
              · rw [if_neg (fun h => e h.1), rowAt_set, if_neg (fun h => e h.1)]; exact HR.out j (by omega)
          case measure => simp [intOf]; omega
      · have HXP := Lib.hid hxp; clear hxp
        go_wp2
        go_roundw
        case rel =>
          refine ⟨k + 1, _, _, by omega, by go_num, ?_, by have h9 := HPUT.out; simpa only [World.size_alloc, World.size_setCell] using h9, fun j hj => ?_, HXP.out⟩
          · simp [HRL.out]
          · rw [rowAt_set]
            by_cases e : j = k
            · rw [if_pos ⟨e, by rw [HRL.out]; exact hlt⟩, e]; exact rowGood.zeros hlt2
            · rw [if_neg (fun h => e h.1)]; exact HR.out j (by omega)
        case measure => simp [intOf]; omega
    · -- the rows are made
      obtain ⟨hi, hhi⟩ : ∃ hi, wo.heap.size = hi := ⟨_, rfl⟩
      have hG := HG.out
      rw [hhi] at hG
      have HG1 := Lib.hid hG; clear hG
      have hg0hi : g0 < hi := by
        have := HG.out.range (by intro e; have := HRL.out; rw [e] at this; simp at this)
        simp only [ablk] at this; omega
      have HHI := Lib.hid hhi; clear hhi
      have HSQ : Hid (Sq (n + m + 2) R) := Lib.hid ⟨HRL.out, fun u hu => (HR.out u (by omega)).1⟩
      have HEL : Hid (∀ a b, a < n + m + 2 → b < n + m + 2 → elOf R a b = fillUp (NetT T) 0 0 a b) := Lib.hid (fun a b ha hb => by
        have e := (HR.out a (by omega)).2 b hb
        show ix (rowAt R a) b = _
        rw [e, fillUp_zero, HNT.out.1, HNT.out.2]
        by_cases hab : a < n + m ∧ b < n + m
        · rw [if_pos hab, if_pos hab, ELI.out a b hab.1 hab.2]
          exact resD_congr (m := m) (fun i j _ _ => pastB_all m i j) hab.1 hab.2
        · rw [if_neg hab, if_neg hab])
      clear HR HG
      have hb := b1.ext hx
      have y2 := hb.cell 2 (by simp)
      have hxw := v1.trans hx
      have HTL1 := Lib.hid (HTL.out.ext hxw)
      have hn0 : 0 < T.lo.length := by rw [HRC.out.len]; omega
      have HROW : Hid (∀ i, i < T.lo.length → (rowAt T.lo i).length = m) := Lib.hid (fun i hi => HRC.out.row i (by rw [← HRC.out.len]; exact hi))
      obtain ⟨RS, hRS⟩ : ∃ RS, rowS T.lo = RS := ⟨_, rfl⟩
      obtain ⟨CS, hCS⟩ : ∃ CS, colS T.lo m = CS := ⟨_, rfl⟩
      have hrl : RS.length = n := by rw [← hRS, rowS_length, HRC.out.len]
      have hcl : CS.length = m := by rw [← hCS, colS_length]
      have HRS := Lib.hid hRS; clear hRS
      have HCS := Lib.hid hCS; clear hCS
      have HRSL := Lib.hid hrl; clear hrl
      have HCSL := Lib.hid hcl; clear hcl
      go_upto_region 11 with fail
      go_cut [8, 9] from 14 to 140 (fun s8 s9 wx => ∃ a5 c5 a7 c7, s8 = .slice a5 RS.length c5 ∧ s9 = .slice a7 CS.length c7 ∧ Own hi wx.heap.size wx (.slice a5 RS.length c5) RS ∧ Own hi wx.heap.size wx (.slice a7 CS.length c7) CS ∧ Ext wo wx)
      case first =>
        go_wp2_with fail
        go_region_with (first
          | (go_at_call 73; refine (rowSums_c _ T.lo _ (HTL1.out.ext (Ext.refl _).drew) HTM.out).mono ?_; rw [HRS.out]; rintro e w5 ⟨x5, rfl, o5, u5⟩; have O5 := Lib.hid o5; obtain ⟨a5_, c5_, rfl, r51, r52, r53⟩ := o5; clear r53; have y0 := Ext.cell u5 y2)
          | (go_at_call 74; refine (colSums_c _ T.lo m _ ((HTL1.out.ext (Ext.refl _).drew).ext u5) HTM.out hn0 HROW.out).mono ?_; rw [HCS.out]; rintro e w7 ⟨x7, rfl, o7, u7⟩; have O7 := Lib.hid o7; obtain ⟨a7_, c7_, rfl, r71, r72, r73⟩ := o7; clear r73))
        all_goals (first | go_wp2_with fail | skip)
        all_goals go_meet
        all_goals exact ⟨a5_, c5_, a7_, c7_, rfl, rfl, (O5.out.ext u7).mono (by rw [← HHI.out]; exact Nat.le_refl _) u7.size, O7.out.mono (by rw [← HHI.out]; exact u5.size) (Nat.le_refl _), ((Ext.refl _).drew.trans u5).trans u7⟩
      case rest =>
        obtain ⟨a5, c5, a7, c7, rfl, rfl, o5, o7, u7⟩ := hcut
        have O5 := Lib.hid o5; clear o5
        have O7 := Lib.hid o7; clear o7
        have hgc := Lib.hid (HG1.out.ext u7); clear HG1
        have hbc := hb.ext u7
        have hxc := hxw.trans u7
        have HSZ : Hid (hi ≤ wc.heap.size) := Lib.hid (by rw [← HHI.out]; exact u7.size)
        have hxc0 := HSZ.out
        obtain ⟨bcb, hbcb⟩ : ∃ bcb, bcb = w.heap.size := ⟨_, rfl⟩
        have hlow : w.heap.size < g0 := by rw [← hg0]; exact hz1
        have HF0 := Lib.hid (H.out.f0.ext hxc)
        have HF1 := Lib.hid (H.out.f1.ext hxc)
        -- what a world behind stores into the grid still knows
        have hkeep : ∀ wr : World, Upd (fun b => g0 ≤ b ∧ b < hi) wc wr → Ext w wr := fun _ u => hxc.of_upd u (fun b hb => by omega)
        have HKEEP := Lib.hid hkeep; clear hkeep
        have hboxk : ∀ wr : World, Upd (fun b => g0 ≤ b ∧ b < hi) wc wr → Box wr w.heap.size 38 #[.slice a0 n c0, .slice a1 m c1, .slice (some ⟨bl, ol, none⟩) n c2, .slice a3 T.hi.length c3] := fun _ u => hbc.upd u (by omega)
        have HBOXK := Lib.hid hboxk; clear hboxk
        have hrowk : ∀ wr : World, Upd (fun b => g0 ≤ b ∧ b < hi) wc wr → Own hi wc.heap.size wr (.slice a5 RS.length c5) RS := fun _ u => O5.out.away u (fun b hb => by omega)
        have HROWK := Lib.hid hrowk; clear hrowk
        have hcolk : ∀ wr : World, Upd (fun b => g0 ≤ b ∧ b < hi) wc wr → Own hi wc.heap.size wr (.slice a7 CS.length c7) CS := fun _ u => O7.out.away u (fun b hb => by omega)
        have HCOLK := Lib.hid hcolk; clear hcolk
        clear hb hx hxw u7 b1 y2
        have y0 := hbc.cell 0 (by simp)
        have y1 := hbc.cell 1 (by simp)
        have hNR : ∀ i, ix T.rows i = (NetT T).R i := fun _ => rfl
        have hRSv : ∀ i, i < n → ix RS i = S m (elOf T.lo i) := fun i hi => by rw [← HRS.out, ix_rowS (by rw [HRC.out.len]; exact hi), HRC.out.rowsum hi]
        have hCSv : ∀ j, j < m → ix CS j = S n (fun i => elOf T.lo i j) := fun j hj => by rw [← HCS.out, ix_colS hj, HRC.out.colsum]
        have HRSV := Lib.hid hRSv; clear hRSv hNR
        have HCSV := Lib.hid hCSv; clear hCSv
        have hbd : ∀ i j, i < n → j < m → 0 ≤ elOf T.lo i j ∧ elOf T.lo i j ≤ 100000 := fun i j hi hj => by
          have := HO.out.el (i := i) (j := j) (by rw [HN.out]; exact hi) (by rw [HM.out]; exact hj); omega
        have HBD := Lib.hid hbd; clear hbd
        have hn9 : ∀ i, i < n → 0 ≤ ix RS i ∧ ix RS i ≤ 100000000 := fun i hi => by
          rw [HRSV.out i hi]
          have h1 := S_nonneg (n := m) (fun j hj => (HBD.out i j hi hj).1)
          have h2 := S_le (n := m) (g := fun _ => 100000) (fun j hj => (HBD.out i j hi hj).2)
          have h3 := S_const_le (n := m) (N := 8) (c := 100000) d4 (by omega)
          omega
        have hm9 : ∀ j, j < m → 0 ≤ ix CS j ∧ ix CS j ≤ 100000000 := fun j hj => by
          rw [HCSV.out j hj]
          have h1 := S_nonneg (n := n) (fun i hi => (HBD.out i j hi hj).1)
          have h2 := S_le (n := n) (g := fun _ => 100000) (fun i hi => (HBD.out i j hi hj).2)
          have h3 := S_const_le (n := n) (N := 8) (c := 100000) d2 (by omega)
          omega
        have HN9 := Lib.hid hn9; clear hn9
        have HM9 := Lib.hid hm9; clear hm9
        have HRSN := HRSL.out
        have HCSN := HCSL.out
        rw [HRSN, HCSN]
        rw [HRSN] at HROWK
        rw [HCSN] at HCOLK
        clear HRSN HCSN O5 O7
        go_wp2
        go_loopw [66] (fun i wr => ∃ (k : Nat) (R : List (List Int)), k ≤ n ∧ i = .int .i64 k ∧ OwnGA g0 hi wr (some ⟨g0, 0, none⟩) rvs R ∧ Sq (n + m + 2) R ∧ (∀ a b, a < n + m + 2 → b < n + m + 2 → elOf R a b = fillUp (NetT T) k 0 a b) ∧ (∀ i, i < k → ix RS i ≤ ix T.rows i) ∧ Upd (fun b => g0 ≤ b ∧ b < hi) wc wr) (fun i _ => n - (intOf i).toNat)
        case atStart => exact ⟨0, R, Nat.zero_le _, rfl, hgc.out, HSQ.out, HEL.out, fun i hi => by omega, Upd.refl _⟩
        case round =>
          clear hgc hbc y0 y1 HSQ HEL
          obtain ⟨k, R, hk, rfl, hG, hS, hE, hJ, hU⟩ := hrel
          obtain ⟨wo, rfl⟩ : ∃ wo : World, wo = wr := ⟨_, rfl⟩
          have HG := Lib.hid hG; clear hG
          have HS := Lib.hid hS; clear hS
          have HE := Lib.hid hE; clear hE
          have HJ := Lib.hid hJ; clear hJ
          have hb2 := HBOXK.out _ hU
          have hx2 := HKEEP.out _ hU
          by_cases hlt : k < n
          · obtain ⟨_, _, e9, _, _, gr⟩ := H.out.f0.ext hx2
            simp only [Value.slice.injEq] at e9
            obtain ⟨rfl, hl9, _⟩ := e9
            obtain ⟨b5, o5, rfl, hx5⟩ := gr k (by rw [← hl9]; exact hlt)
            clear gr hl9
            obtain ⟨b6, o6, hb6, _, _, _, hx6, _⟩ := (HROWK.out _ hU).at_' (k := k) (by rw [HRSL.out]; exact hlt)
            subst hb6
            have hr5 := HO.out.rowR (i := k) (by rw [HN.out]; exact hlt)
            have hr6 := HN9.out k hlt
            have hr7 := HRSV.out k hlt
            by_cases hle : ix RS k ≤ ix T.rows k
            case neg =>
              have HNO : Hid (¬ ∃ x, Fits (NetT T) x) := Lib.hid (by
                rintro ⟨x, hf⟩
                have e1 := hf.row k (by rw [HNT.out.1]; exact hlt)
                rw [HNT.out.2] at e1
                have e2 : S m (elOf T.lo k) ≤ S m (x k) := S_le (fun j hj => hf.lo k j (by rw [HNT.out.1]; exact hlt) (by rw [HNT.out.2]; exact hj))
                have e3 : (NetT T).R k = ix T.rows k := rfl
                omega)
              clear hr7
              go_wp2
              go_ret
              exact ⟨_, rfl, hx2, .inl ⟨rfl, fun x hf => HNO.out ⟨x, hf⟩⟩⟩
            have hkN : n + m < n + m + 2 := by omega
            have hlN : k < n + m + 2 := by omega
            obtain ⟨X, hX⟩ : ∃ X, ix T.rows k = X := ⟨_, rfl⟩
            obtain ⟨Y, hY⟩ : ∃ X, ix RS k = X := ⟨_, rfl⟩
            have HXV : Hid ((NetT T).R k - S (NetT T).m ((NetT T).Lo k) = X - Y) := Lib.hid (by
              rw [HNT.out.2, ← hX, ← hY, hr7]; rfl)
            have HJ' : Hid (∀ i, i < k + 1 → ix RS i ≤ ix T.rows i) := Lib.hid (fun i hi => by
              by_cases e : i = k
              · rw [e]; exact hle
              · exact HJ.out i (by omega))
            rw [hX] at hx5 hr5 hle
            rw [hY] at hx6 hr6 hle
            clear hX hY hr7
            obtain ⟨bg, og, q2, _, _, _, hcp, _⟩ := HG.out.at_ (k := n + m) (by rw [HS.out.len]; exact hkN)
            simp only [Option.some.injEq, Addr.mk.injEq, and_true] at q2
            obtain ⟨rfl, rfl⟩ := q2
            obtain ⟨ap, cp, evp, ip1, ip2⟩ := HG.out.rowForm (k := n + m) (by rw [HS.out.len]; exact hkN)
            have hst1 := HG.out.store (k := n + m) (l := k) (by rw [HS.out.len]; exact hkN) (by rw [HS.out.row _ hkN]; exact hlN) evp
            rw [evp, HS.out.row _ hkN, Nat.zero_add] at hcp
            rw [HS.out.row _ hkN] at ip1
            obtain ⟨bp, op, q3, lp1, lp2, lp3, hce1, hfe, st1⟩ := hst1
            subst q3
            have G3 := Lib.hid (st1 (X - Y)); clear st1 evp
            have HQ3 := Lib.hid (HS.out.set (u := n + m) (v := k) (X - Y))
            have HE3 := Lib.hid (elOf_set HS.out hkN hlN (X - Y))
            have HU2 := Lib.hid ((hU.setCell (a := ⟨bp, op + k, none⟩) (.int .i64 (X - Y)) (fun _ => ⟨lp1, lp2⟩)).drew)
            go_wp2_with fail
            go_region
            go_wp2
            go_roundw
            case rel =>
              refine ⟨k + 1, _, by omega, by go_num, G3.out.ext (Ext.refl _).drew, HQ3.out, fun a b ha hb => ?_, HJ'.out, HU2.out⟩
              rw [HE3.out a b, HE.out a b ha hb, fillUp_row, HNT.out.1, HNT.out.2, ← HXV.out, HNT.out.2]
            case measure => simp [intOf]; omega
          · -- the columns
            have hkn : k = n := by omega
            have HE1 : Hid (∀ a b, a < n + m + 2 → b < n + m + 2 → elOf R a b = fillUp (NetT T) n 0 a b) := Lib.hid (fun a b ha hb => by rw [HE.out a b ha hb, hkn])
            have HJ1 : Hid (∀ i, i < n → ix RS i ≤ ix T.rows i) := Lib.hid (fun i hi => HJ.out i (by omega))
            have y1 := hb2.cell 1 (by simp)
            clear hkn HE HJ
            go_wp2
            go_loopw [95] (fun i wr => ∃ (l : Nat) (R : List (List Int)), l ≤ m ∧ i = .int .i64 l ∧ OwnGA g0 hi wr (some ⟨g0, 0, none⟩) rvs R ∧ Sq (n + m + 2) R ∧ (∀ a b, a < n + m + 2 → b < n + m + 2 → elOf R a b = fillUp (NetT T) n l a b) ∧ (∀ j, j < l → ix CS j ≤ ix T.cols j) ∧ Upd (fun b => g0 ≤ b ∧ b < hi) wc wr) (fun i _ => m - (intOf i).toNat)
            case atStart => exact ⟨0, R, Nat.zero_le _, rfl, HG.out, HS.out, HE1.out, fun i hi => by omega, hU⟩
            case round =>
              clear HG HS HE1 hU hb2 hx2 y1 hlt hk
              obtain ⟨l, R, hl, rfl, hG, hS, hE, hJ, hU⟩ := hrel
              obtain ⟨wo, rfl⟩ : ∃ wo : World, wo = wr := ⟨_, rfl⟩
              have HG := Lib.hid hG; clear hG
              have HS := Lib.hid hS; clear hS
              have HE := Lib.hid hE; clear hE
              have HJ := Lib.hid hJ; clear hJ
              have hb2 := HBOXK.out _ hU
              have hx2 := HKEEP.out _ hU
              by_cases hlt : l < m
              · obtain ⟨_, _, e9, _, _, gr⟩ := H.out.f1.ext hx2
                simp only [Value.slice.injEq] at e9
                obtain ⟨rfl, hl9, _⟩ := e9
                obtain ⟨b5, o5, rfl, hx5⟩ := gr l (by rw [← hl9]; exact hlt)
                clear gr hl9
                obtain ⟨b6, o6, hb6, _, _, _, hx6, _⟩ := (HCOLK.out _ hU).at_' (k := l) (by rw [HCSL.out]; exact hlt)
                subst hb6
                have hr5 := HO.out.colR (i := l) (by rw [HM.out]; exact hlt)
                have hr6 := HM9.out l hlt
                have hr7 := HCSV.out l hlt
                by_cases hle : ix CS l ≤ ix T.cols l
                case neg =>
                  have HNO : Hid (¬ ∃ x, Fits (NetT T) x) := Lib.hid (by
                    rintro ⟨x, hf⟩
                    have e1 := hf.col l (by rw [HNT.out.2]; exact hlt)
                    rw [HNT.out.1] at e1
                    have e2 : S n (fun i => elOf T.lo i l) ≤ S n (fun i => x i l) := S_le (fun i hi => hf.lo i l (by rw [HNT.out.1]; exact hi) (by rw [HNT.out.2]; exact hlt))
                    have e3 : (NetT T).C l = ix T.cols l := rfl
                    omega)
                  clear hr7
                  go_wp2
                  go_ret
                  exact ⟨_, rfl, hx2, .inl ⟨rfl, fun x hf => HNO.out ⟨x, hf⟩⟩⟩
                have hkN : n + l < n + m + 2 := by omega
                have hlN : n + m + 1 < n + m + 2 := by omega
                obtain ⟨X, hX⟩ : ∃ X, ix T.cols l = X := ⟨_, rfl⟩
                obtain ⟨Y, hY⟩ : ∃ X, ix CS l = X := ⟨_, rfl⟩
                have HXV : Hid ((NetT T).C l - S (NetT T).n (fun i => (NetT T).Lo i l) = X - Y) := Lib.hid (by
                  rw [HNT.out.1, ← hX, ← hY, hr7]; rfl)
                have HJ' : Hid (∀ i, i < l + 1 → ix CS i ≤ ix T.cols i) := Lib.hid (fun i hi => by
                  by_cases e : i = l
                  · rw [e]; exact hle
                  · exact HJ.out i (by omega))
                rw [hX] at hx5 hr5 hle
                rw [hY] at hx6 hr6 hle
                clear hX hY hr7
                obtain ⟨bg, og, q2, _, _, _, hcp, _⟩ := HG.out.at_ (k := n + l) (by rw [HS.out.len]; exact hkN)
                simp only [Option.some.injEq, Addr.mk.injEq, and_true] at q2
                obtain ⟨rfl, rfl⟩ := q2
                obtain ⟨ap, cp, evp, ip1, ip2⟩ := HG.out.rowForm (k := n + l) (by rw [HS.out.len]; exact hkN)
                have hst1 := HG.out.store (k := n + l) (l := n + m + 1) (by rw [HS.out.len]; exact hkN) (by rw [HS.out.row _ hkN]; exact hlN) evp
                rw [evp, HS.out.row _ hkN, Nat.zero_add] at hcp
                rw [HS.out.row _ hkN] at ip1
                obtain ⟨bp, op, q3, lp1, lp2, lp3, hce1, hfe, st1⟩ := hst1
                subst q3
                have G3 := Lib.hid (st1 (X - Y)); clear st1 evp
                have HQ3 := Lib.hid (HS.out.set (u := n + l) (v := n + m + 1) (X - Y))
                have HE3 := Lib.hid (elOf_set HS.out hkN hlN (X - Y))
                have HU2 := Lib.hid ((hU.setCell (a := ⟨bp, op + (n + m + 1), none⟩) (.int .i64 (X - Y)) (fun _ => ⟨lp1, lp2⟩)).drew)
                go_wp2_with fail
                go_region
                go_wp2
                go_roundw
                case rel =>
                  refine ⟨l + 1, _, by omega, by go_num, G3.out.ext (Ext.refl _).drew, HQ3.out, fun a b ha hb => ?_, HJ'.out, HU2.out⟩
                  have h9 := fillUp_col (NetT T) (l := l) (by rw [HNT.out.2]; exact hlt) a b
                  rw [HXV.out, HNT.out.1, HNT.out.2] at h9
                  rw [HE3.out a b, HE.out a b ha hb, h9]
                case measure => simp [intOf]; omega
              · have hkn : l = m := by omega
                have HE2 : Hid (∀ a b, a < n + m + 2 → b < n + m + 2 → elOf R a b = fillD (NetT T) a b) := Lib.hid (fun a b ha hb => by
                  have h9 := fillUp_done (NetT T) (a := a) (b := b)
                  rw [HNT.out.1, HNT.out.2] at h9
                  rw [HE.out a b ha hb, hkn, h9])
                have HJ2 : Hid (∀ i, i < m → ix CS i ≤ ix T.cols i) := Lib.hid (fun i hi => HJ.out i (by omega))
                have y0 := hb2.cell 0 (by simp)
                have y1 := hb2.cell 1 (by simp)
                have y2 := hb2.cell 2 (by simp)
                have y3 := hb2.cell 3 (by simp)
                clear hkn HE HJ
                go_wp2_with fail
                refine (total_c _ T.rows _ (H.out.f0.ext hx2) HO.out.rowsSum.1).mono ?_
                rintro e w5 ⟨rfl, rfl⟩
                obtain ⟨SR, hSR⟩ : ∃ X, T.rows.sum = X := ⟨_, rfl⟩
                have hsr := HO.out.rowsSum.2
                rw [hSR] at hsr ⊢
                have HSR : Hid (SR = S (NetT T).n (NetT T).R) := Lib.hid (by rw [← hSR, sum_S]; rfl)
                clear hSR
                have hszo : hi ≤ w5.heap.size := by have := hU.size; omega
                have hpu := push_c g0 hi (some ⟨g0, 0, none⟩) (n + m + 2) rvs R (n + m + 2) (n + m) (n + m + 1) SR w5 HG.out HS.out ⟨Nat.le_refl _, by omega⟩ (by omega) (by omega) (by omega) (by omega)
                  (fun u v hu hv => by
                    rw [HE2.out u v hu hv]
                    refine fillD_bound (t := NetT T) (fun i j hi hj => HO.out.el hi hj) (fun i hi => ⟨?_, (HO.out.rowR hi).2⟩) (fun j hj => ⟨?_, (HO.out.colR hj).2⟩) (by rw [HNT.out.1, HNT.out.2]; exact hu) (by rw [HNT.out.1, HNT.out.2]; exact hv)
                    · rw [HNT.out.1] at hi
                      have h1 := HJ1.out i hi
                      rw [HRSV.out i hi] at h1
                      rw [HNT.out.2]; exact h1
                    · rw [HNT.out.2] at hj
                      have h1 := HJ2.out j hj
                      rw [HCSV.out j hj] at h1
                      rw [HNT.out.1]; exact h1) (by omega) hszo
                have e1 : ((n + m : Nat) : Int) = (n : Int) + (m : Int) := by omega
                have e2 : ((n + m + 1 : Nat) : Int) = (n : Int) + (m : Int) + 1 := by omega
                rw [e2, e1] at hpu
                have HPU := Lib.hid hpu; clear hpu e1 e2
                go_wp2_with fail
                refine HPU.out.mono ?_
                rintro e w6 ⟨sent, R6, rfl, G6, Q6, P6, U6⟩
                have hU6 := hU.trans U6
                have hb6 := HBOXK.out _ hU6
                have hx6 := HKEEP.out _ hU6
                clear hb2 hU y0 y1 y2 y3 U6
                have y0 := hb6.cell 0 (by simp)
                have y1 := hb6.cell 1 (by simp)
                have y2 := hb6.cell 2 (by simp)
                have y3 := hb6.cell 3 (by simp)
                have P7 : Pushed ((NetT T).n + (NetT T).m + 2) (fillD (NetT T)) ((NetT T).n + (NetT T).m) ((NetT T).n + (NetT T).m + 1) (S (NetT T).n (NetT T).R) sent (elOf R6) := by
                  rw [← HSR.out, HNT.out.1, HNT.out.2]
                  exact P6.of_eq (by omega) HE2.out
                have HFF := Lib.hid P7.facts
                have HCE := Lib.hid (P7.cert (fun i j hi hj => (HO.out.el hi hj).1))
                clear P6 P7
                have hres : ∀ i j, i < n → j < m → -1000000000 ≤ elOf R6 i (n + j) ∧ elOf R6 i (n + j) ≤ 1000000000000 := fun i j hi hj => by
                  have h1 := HFF.out.rc i j (by rw [HNT.out.1]; exact hi) (by rw [HNT.out.2]; exact hj)
                  rw [HNT.out.1] at h1
                  have h2 := HO.out.el (i := i) (j := j) (by rw [HN.out]; exact hi) (by rw [HM.out]; exact hj)
                  have h3 : (NetT T).Hi i j = elOf T.hi i j := rfl
                  have h4 : (NetT T).Lo i j = elOf T.lo i j := rfl
                  omega
                have hre := restore_c _ T _ T.lo _ R6 (-1) w6 (H.out.ext hx6) (HTL.out.ext hx6) (G6.grid_of (n := n + m + 2) (cap := n + m + 2) Q6.len (Nat.le_refl _) (by omega)) HO.out HO.out.rcLo
                  (by rw [HN.out, HM.out]; exact ⟨by rw [Q6.len]; omega, fun i hi => by rw [Q6.row i (by omega)]; omega⟩) (by rw [HN.out, HM.out]; exact hres) (by omega)
                rw [HN.out, HM.out] at hre
                have HRE := Lib.hid hre; clear hre hres G6 Q6
                go_wp2_with fail
                refine HRE.out.mono ?_
                rintro e w7 ⟨v7, rv7, X, rfl, o7, rc7, el7, u7⟩
                have O7 := Lib.hid o7
                obtain ⟨a7', c7', rfl, _, _, _⟩ := o7
                have hsz6 := hx6.size
                obtain ⟨A, B, hce⟩ := HCE.out
                have HCF : Hid (Cert (NetT T) (elOf X) A B) := Lib.hid (hce.congr (fun i j hi hj => by
                  rw [HNT.out.1] at hi
                  rw [HNT.out.2] at hj
                  rw [el7 i j hi hj, HNT.out.1]
                  unfold restD
                  rw [if_pos (pastB_all m i j).symm]; rfl))
                have HRC7 := Lib.hid rc7; clear rc7 el7 hce
                go_wp2
                go_ret
                exact ⟨_, rfl, hx6.trans u7, .inr ⟨rv7, X, O7.out.mono hsz6 (Nat.le_refl _), HRC7.out, A, B, HCF.out⟩⟩
end Go.Proofs.Ytodnkahnbidgaaa
