/- The first cut, the spec's and the program's: FindCut. -/
import Derived.Test.YthdfiebacomilaaFindP
import Derived.Deep.RegionHeld3
namespace Go.Proofs.Ythdfiebacomilaa
open Go.RowKit
open Fm

theorem tSum_f (b : Int) (v : Value) (xs : List Int) (w : World) (hb : xs.sum = b) (h : Ints w v xs) (hs : SumOk xs) : Calls Try.prog 57 #[v] w fun e w' => e = .returned (.int .i64 b) ∧ w' = w := by
  subst hb; exact tSum_c v xs w h hs
theorem tCut_b (b : Bool) (v : Value) (T : Tr) (v1 : Value) (rows : List Int) (v2 : Value) (cols : List Int) (w : World) (hb : cutB T rows cols = b) (h : TrR w v T) (h1 : Ints w v1 rows) (h2 : Ints w v2 cols) (ho : TrOk T) (hr : Rising (T.rows.length : Int) rows) (hc : Rising (T.cols.length : Int) cols) :
    Calls Try.prog 52 #[v, v1, v2] w fun e w' => e = .returned (.bool b) ∧ Ext w w' := by
  subst hb; exact tCut_c v T v1 rows v2 cols w h h1 h2 ho hr hc
theorem RetInts2.none {mk : Value → Value → Value} {w w' : World} (u : Ext w w') : RetInts2 mk w [] [] (.returned (mk (.slice none 0 0) (.slice none 0 0))) w' := ⟨_, _, _, rfl, Nat.le_refl _, u.size, Own.nil, Own.nil, u⟩
theorem fc_small (T : Tr) : (fcRows T (findC T)).length ≤ 1048576 ∧ (fcCols T (findC T)).length ≤ 1048576 := by
  by_cases h : trB T = true ∧ T.rows.sum = T.cols.sum
  · have hd := (trB_true.1 h.1).dims
    cases e : findC T with
    | none => simp [fcRows, fcCols]
    | some s => exact ⟨Nat.le_trans (bits_small T s) (by omega), Nat.le_trans (cols_small T _) (by omega)⟩
  · rw [findC_off h]; simp [fcRows, fcCols]
set_option maxRecDepth 100000 in
set_option maxHeartbeats 1600000 in
theorem specFind_c (v : Value) (T : Tr) (w : World) (h : TrR w v T) :
    Calls Try.prog 24 #[v] w (RetInts2 (fun v1 v2 => .tuple #[v1, v2, .bool (findC T).isSome]) w (fcRows T (findC T)) (fcCols T (findC T))) := by
  have H := Lib.hid h
  obtain ⟨a0, c0, a1, c1, a2, c2, a3, c3, rfl, n0, n1, n2, n3⟩ := h.form
  clear h
  have u0 := (Ext.refl w).alloc (.cells #[.slice a0 T.rows.length c0, .slice a1 T.cols.length c1, .slice a2 T.lo.length c2, .slice a3 T.hi.length c3] 29)
  have b0 := Box.new w 29 #[.slice a0 T.rows.length c0, .slice a1 T.cols.length c1, .slice a2 T.lo.length c2, .slice a3 T.hi.length c3] rfl
  have k0 := b0.cell 0 (by simp)
  have k1 := b0.cell 1 (by simp)
  have k2 := b0.cell 2 (by simp)
  have k3 := b0.cell 3 (by simp)
  cases ht : trB T
  · have HE : Hid (findC T = none) := Lib.hid (findC_off (by rw [ht]; simp))
    rw [HE.out]
    have HT := Lib.hid ht; clear ht
    go_enter Try.func24, Try.ntmps24
    go_wp2_with fail
    first
      | (go_region_with ((go_at_call 50; refine (tGood_b false _ T _ HT.out (H.out.ext u0.drew)).mono ?_; rintro e w1 ⟨rfl, u1⟩)))
      | fail
    all_goals go_wp2
    all_goals go_ret3
    all_goals exact RetInts2.none (u0.drew.trans u1)
  have HO := Lib.hid (trB_true.1 ht)
  have HT := Lib.hid ht; clear ht
  obtain ⟨SR, hSR⟩ : ∃ X, T.rows.sum = X := ⟨_, rfl⟩
  obtain ⟨SC, hSC⟩ : ∃ X, T.cols.sum = X := ⟨_, rfl⟩
  have HSR := Lib.hid hSR; clear hSR
  have HSC := Lib.hid hSC; clear hSC
  by_cases hs : SR = SC
  case neg =>
    have hb : (SR != SC) = true := by simp [hs]
    have HE : Hid (findC T = none) := Lib.hid (findC_off (by rw [HSR.out, HSC.out]; simp [hs]))
    rw [HE.out]
    clear hs
    go_enter Try.func24, Try.ntmps24
    go_wp2_with fail
    go_region_held3 (fun w' => w'.cell? ⟨w.heap.size, 0, none⟩ = some (.slice a0 T.rows.length c0) ∧ w'.cell? ⟨w.heap.size, 1, none⟩ = some (.slice a1 T.cols.length c1) ∧ w'.cell? ⟨w.heap.size, 2, none⟩ = some (.slice a2 T.lo.length c2) ∧ w'.cell? ⟨w.heap.size, 3, none⟩ = some (.slice a3 T.hi.length c3))
      (first | exact ⟨Ext.cell u1 k0, Ext.cell u1 k1, Ext.cell u1 k2, Ext.cell u1 k3⟩ | go_keep)
      ((first
        | (go_at_call 57; (with_reducible refine (tSum_f SC _ T.cols _ HSC.out ((H.out.f1.ext u0.drew).ext u1) HO.out.colsSum.1).mono ?_); rintro e w2 ⟨rfl, rfl⟩)
        | (go_at_call 57; (with_reducible refine (tSum_f SR _ T.rows _ HSR.out ((H.out.f0.ext u0.drew).ext u1) HO.out.rowsSum.1).mono ?_); rintro e w2 ⟨rfl, rfl⟩)
        | (go_at_call 50; refine (tGood_b true _ T _ HT.out (H.out.ext u0.drew)).mono ?_; rintro e w1 ⟨rfl, u1⟩)))
    go_wp2
    go_ret3
    exact RetInts2.none (u0.drew.trans u1)
  have hb : (SR != SC) = false := by simp [hs]
  have HE : Hid (findC T = firstCut T) := Lib.hid (findC_on HT.out (by rw [HSR.out, HSC.out]; exact hs))
  clear hs
  rw [HE.out]
  have hd := HO.out.dims
  have d2 := hd.2.1
  have d4 := hd.2.2.2.1
  clear hd
  obtain ⟨M, hM⟩ : ∃ M, 2 ^ T.rows.length = M := ⟨_, rfl⟩
  have hM256 : M ≤ 256 := by rw [← hM]; exact Nat.le_trans (Nat.pow_le_pow_right (by omega) d2) (by omega)
  have hsh : wrap64 ((2 : Int) ^ T.rows.length) = (M : Int) := by
    rw [show (2 : Int) ^ T.rows.length = (M : Int) by rw [← hM]; simp]
    unfold wrap64; omega
  have HM := Lib.hid hM; clear hM
  go_enter Try.func24, Try.ntmps24
  go_wp2_with fail
  go_region_held3 (fun w' => w'.cell? ⟨w.heap.size, 0, none⟩ = some (.slice a0 T.rows.length c0) ∧ w'.cell? ⟨w.heap.size, 1, none⟩ = some (.slice a1 T.cols.length c1) ∧ w'.cell? ⟨w.heap.size, 2, none⟩ = some (.slice a2 T.lo.length c2) ∧ w'.cell? ⟨w.heap.size, 3, none⟩ = some (.slice a3 T.hi.length c3))
    (first | exact ⟨Ext.cell u1 k0, Ext.cell u1 k1, Ext.cell u1 k2, Ext.cell u1 k3⟩ | go_keep)
    ((first
      | (go_at_call 57; (with_reducible refine (tSum_f SC _ T.cols _ HSC.out ((H.out.f1.ext u0.drew).ext u1) HO.out.colsSum.1).mono ?_); rintro e w2 ⟨rfl, rfl⟩)
      | (go_at_call 57; (with_reducible refine (tSum_f SR _ T.rows _ HSR.out ((H.out.f0.ext u0.drew).ext u1) HO.out.rowsSum.1).mono ?_); rintro e w2 ⟨rfl, rfl⟩)
      | (go_at_call 50; refine (tGood_b true _ T _ HT.out (H.out.ext u0.drew)).mono ?_; rintro e w1 ⟨rfl, u1⟩)))
  have x2 := u0.drew.trans u1
  have b2 := b0.ext ((Ext.refl _).drew.trans u1)
  have y0 := b2.cell 0 (by simp)
  go_wp2
  go_loopg [5] M (fun gk i wr => ∃ s : Nat, s + gk = M ∧ i = .int .i64 s ∧ (∀ s', s' < s → cutAt T s' = false) ∧ Ext w2 wr)
  case atStart => exact ⟨0, by omega, rfl, fun s' h => by omega, Ext.refl _⟩
  case round =>
    obtain ⟨s, hs, rfl, hno, hx⟩ := hrel
    obtain ⟨wo, rfl⟩ : ∃ wo : World, wo = wr := ⟨_, rfl⟩
    have HN := Lib.hid hno; clear hno
    have b3 := b2.ext hx
    have z0 := b3.cell 0 (by simp)
    have z1 := b3.cell 1 (by simp)
    have z2 := b3.cell 2 (by simp)
    have z3 := b3.cell 3 (by simp)
    have x3 := x2.trans hx
    by_cases hlt : s < M
    case neg =>
      have HFC := Lib.hid (firstCut_none (T := T) (fun s' h => HN.out s' (by have := HM.out; omega)))
      go_wp2
      go_ret3
      rw [HFC.out]
      exact RetInts2.none x3
    obtain ⟨n, hn⟩ : ∃ n, T.rows.length = n := ⟨_, rfl⟩
    rw [hn] at z0 d2 hsh
    have HNN := Lib.hid hn; clear hn
    go_wp2
    rw [hsh]
    go_loopw [6, 33] (fun r i wr => ∃ l : Nat, l ≤ n ∧ i = .int .i64 l ∧ IRow wo.heap.size wr r (bitsI s l) ∧ Ext wo wr) (fun _ i _ => n - (intOf i).toNat)
    case atStart => exact ⟨0, Nat.zero_le _, rfl, IRow.nil, Ext.refl _⟩
    case round =>
      obtain ⟨l, hl, rfl, hr, hx4⟩ := hrel
      obtain ⟨wi, rfl⟩ : ∃ wi : World, wi = wr := ⟨_, rfl⟩
      have HRW := Lib.hid hr; clear hr
      obtain ⟨ao_, co_, evr⟩ := HRW.out.form
      subst evr
      by_cases hl2 : l < n
      · have hb := bit_test s l (by omega)
        have hbs := bitsI_succ s l
        cases ht : s.testBit l
        · rw [ht] at hb hbs
          simp only [Bool.false_eq_true, if_false] at hbs
          have HBS := Lib.hid hbs; clear hbs ht
          go_wp2
          go_roundw
          case rel => exact ⟨l + 1, by omega, by go_num, by rw [HBS.out]; exact HRW.out, hx4⟩
          case measure => simp [intOf]; omega
        · rw [ht] at hb hbs
          simp only [if_true] at hbs
          have HBS := Lib.hid hbs; clear hbs ht
          have hpl := picked_length (fun i => s.testBit i) l
          have hpl' : (bitsI s l).length ≤ l := hpl
          have hown := HRW.out.ext ((Ext.refl wi).alloc (.cells #[.int .i64 l] 3))
          have HOWN := Lib.hid hown
          unfold IRow at hown
          have HOW2 := Lib.hid hown; clear hown hpl
          have hs4 := hx4.size
          go_wp2_with (at_builtin; go_loud (refine app1 _ rfl _ _ 22 3 rfl (.int .i64 0) 8 Try.underlying22 info_int rfl wo.heap.size _ (bitsI s l).length _ rfl HOW2.out wi.heap.size 1 3 (.int .i64 l) rfl (Box.new _ _ _ rfl) rfl (by omega) (by omega) (by simp; omega) ?_))
          intro g cp w3 hown3 hgrow hat hlt3
          have hx3 := HOWN.out.grew (hx4.alloc _) (Nat.le_refl _) hgrow
          have HO3 := Lib.hid hown3; clear hown3
          have HX3 := Lib.hid hx3; clear hx3
          clear hgrow
          go_wp2
          go_roundw
          case rel => exact ⟨l + 1, by omega, by go_num, by rw [HBS.out]; exact IRow.push (by simpa using HO3.out), HX3.out⟩
          case measure => simp [intOf]; omega
      · have hln : l = n := by omega
        have HLN : Hid (bitsI s l = bitRows T s) := Lib.hid (by unfold bitRows; rw [HNN.out, hln])
        clear hln
        have hown := HRW.out.own (Nat.le_refl _)
        rw [HLN.out] at hown
        have O3 := Lib.hid hown; clear hown
        have b4 := b3.ext hx4
        have z0' := b4.cell 0 (by simp)
        have z1' := b4.cell 1 (by simp)
        have z2' := b4.cell 2 (by simp)
        have z3' := b4.cell 3 (by simp)
        have x4 := x3.trans hx4
        go_wp2_with fail
        refine (tColumns_c _ T _ (bitRows T s) _ (H.out.ext x4) (by have h9 := O3.out.ints; rw [← HLN.out] at h9 ⊢; exact h9) HO.out).mono ?_
        rintro e w4 ⟨v4, rfl, o4, u4⟩
        have O4 := Lib.hid o4; clear o4
        have b5 := b4.ext u4
        have z0'' := b5.cell 0 (by simp)
        have z1'' := b5.cell 1 (by simp)
        have z2'' := b5.cell 2 (by simp)
        have z3'' := b5.cell 3 (by simp)
        have x5 := x4.trans u4
        have HI3 : Hid (Ints w4 (.slice ao_ (bitsI s l).length co_) (bitRows T s)) := Lib.hid (by have h9 := O3.out.ints.ext u4; rw [← HLN.out] at h9 ⊢; exact h9)
        cases hc : cutAt T s
        · have HC : Hid (cutB T (bitRows T s) (colsFor T (bitRows T s)) = false) := Lib.hid hc
          have HNX : Hid (∀ s', s' < s + 1 → cutAt T s' = false) := Lib.hid (fun s' h => by
            by_cases e : s' = s
            · subst e; exact hc
            · exact HN.out s' (by omega))
          clear hc
          go_wp2_with fail
          refine (tCut_b false _ T _ (bitRows T s) _ (colsFor T (bitRows T s)) _ HC.out (H.out.ext x5) HI3.out O4.out.ints HO.out (bits_rising T s) (cols_rising T _)).mono ?_
          rintro e w5 ⟨rfl, u5⟩
          go_wp2
          go_roundg (gk - 1)
          case rel => exact ⟨s + 1, by omega, by go_num, HNX.out, ((hx.trans hx4).trans u4).trans u5⟩
          case measure => omega
        · have HC : Hid (cutB T (bitRows T s) (colsFor T (bitRows T s)) = true) := Lib.hid hc
          have HFC := Lib.hid (firstCut_some HN.out (by rw [HM.out]; exact hlt) hc)
          clear hc
          go_wp2_with fail
          refine (tCut_b true _ T _ (bitRows T s) _ (colsFor T (bitRows T s)) _ HC.out (H.out.ext x5) HI3.out O4.out.ints HO.out (bits_rising T s) (cols_rising T _)).mono ?_
          rintro e w5 ⟨rfl, u5⟩
          go_wp2
          go_ret3
          rw [HFC.out]
          have h9 := ((O3.out.ext u4).ext u5).mono (lo' := w.heap.size) x3.size (Nat.le_refl _)
          exact ⟨.slice ao_ (bitsI s l).length co_, v4, wi.heap.size, rfl, x4.size, Nat.le_trans u4.size u5.size, by rw [← HLN.out] at h9; show Own _ _ _ _ (bitRows T s); rw [← HLN.out]; exact h9, (O4.out.ext u5).mono (Nat.le_refl _) u5.size, x5.trans u5⟩
theorem isCut_b (b : Bool) (v : Value) (T : Tr) (v1 : Value) (rows : List Int) (v2 : Value) (cols : List Int) (w : World) (hb : cutB T rows cols = b) (h : TrR w v T) (h1 : Ints w v1 rows) (h2 : Ints w v2 cols) (ho : TrOk T) (hr : Rising (T.rows.length : Int) rows) (hc : Rising (T.cols.length : Int) cols) :
    Calls Try.prog 55 #[v, v1, v2] w fun e w' => e = .returned (.bool b) ∧ Ext w w' := by
  subst hb; exact isCut_c v T v1 rows v2 cols w h h1 h2 ho hr hc
theorem anyFlow_no (v : Value) (T : Tr) (w : World) (h : TrR w v T) (ho : TrOk T) (hn : ¬ ∃ x, Flow (NetT T) x) : Calls Try.prog 62 #[v] w fun e w' => e = .returned (.slice none 0 0) ∧ Ext w w' := by
  refine (anyFlow_c v T w h ho).mono ?_
  rintro e w' ⟨v', rfl, u, hp⟩
  rcases hp with ⟨rfl, _⟩ | ⟨_, X, _, _, _, _, _, _, hf⟩
  · exact ⟨rfl, u⟩
  · exact absurd ⟨_, hf⟩ hn
theorem anyFlow_yes (v : Value) (T : Tr) (w : World) (h : TrR w v T) (ho : TrOk T) (hy : ∃ x, Flow (NetT T) x) : Calls Try.prog 62 #[v] w fun e w' => ∃ b o n cap, e = .returned (.slice (some ⟨b, o, none⟩) n cap) ∧ Ext w w' := by
  refine (anyFlow_c v T w h ho).mono ?_
  rintro e w' ⟨v', rfl, u, hp⟩
  rcases hp with ⟨_, hn⟩ | ⟨_, X, b, o, cap, rfl, _⟩
  · exact absurd hy hn
  · exact ⟨b, o, _, cap, rfl, u⟩
theorem run_neq_slice_nil (t e : TypeId) (h : Program.underlying Try.prog t = some (.slice e)) (w : World) (a : Option Addr) (n c : Nat) : (binOp .neq t (.slice a n c) (.slice none 0 0)).run Try.prog w = .ok (.bool (!a.isNone)) w := by
  simp only [binOp]
  simp [Op.equal, Op.maxDepth, Go.Lib.run_equalIn_slice_nil w 9999 t e a n c 0 0 h]
set_option maxRecDepth 100000 in
set_option maxHeartbeats 1600000 in
theorem implFind_c (v : Value) (T : Tr) (w : World) (h : TrR w v T) :
    Calls Try.prog 25 #[v] w (RetInts2 (fun v1 v2 => .tuple #[v1, v2, .bool (findC T).isSome]) w (fcRows T (findC T)) (fcCols T (findC T))) := by
  have H := Lib.hid h
  obtain ⟨a0, c0, a1, c1, a2, c2, a3, c3, rfl, n0, n1, n2, n3⟩ := h.form
  clear h
  have u0 := (Ext.refl w).alloc (.cells #[.slice a0 T.rows.length c0, .slice a1 T.cols.length c1, .slice a2 T.lo.length c2, .slice a3 T.hi.length c3] 29)
  have b0 := Box.new w 29 #[.slice a0 T.rows.length c0, .slice a1 T.cols.length c1, .slice a2 T.lo.length c2, .slice a3 T.hi.length c3] rfl
  have k0 := b0.cell 0 (by simp)
  have k1 := b0.cell 1 (by simp)
  have k2 := b0.cell 2 (by simp)
  have k3 := b0.cell 3 (by simp)
  have q22 : ∀ (w : World) (a : Option Addr) (n c : Nat), (binOp .neq 23 (.slice a n c) (.slice none 0 0)).run Try.prog w = .ok (.bool (!a.isNone)) w := run_neq_slice_nil 23 22 Try.underlying23
  cases ht : trB T
  · have HE : Hid (findC T = none) := Lib.hid (findC_off (by rw [ht]; simp))
    rw [HE.out]
    have HT := Lib.hid ht; clear ht
    go_enter Try.func25, Try.ntmps25
    go_wp2_with fail
    first
      | (go_region_with ((go_at_call 53; refine (implIsTransport_b false _ T _ HT.out (H.out.ext u0.drew)).mono ?_; rintro e w1 ⟨rfl, u1⟩)))
      | fail
    all_goals go_wp2
    all_goals go_ret3
    all_goals exact RetInts2.none (u0.drew.trans u1)
  have HO := Lib.hid (trB_true.1 ht)
  have HT := Lib.hid ht; clear ht
  obtain ⟨SR, hSR⟩ : ∃ X, T.rows.sum = X := ⟨_, rfl⟩
  obtain ⟨SC, hSC⟩ : ∃ X, T.cols.sum = X := ⟨_, rfl⟩
  have HSR := Lib.hid hSR; clear hSR
  have HSC := Lib.hid hSC; clear hSC
  by_cases hs : SR = SC
  case neg =>
    have hb : (SR != SC) = true := by simp [hs]
    have HE : Hid (findC T = none) := Lib.hid (findC_off (by rw [HSR.out, HSC.out]; simp [hs]))
    rw [HE.out]
    clear hs
    go_enter Try.func25, Try.ntmps25
    go_wp2_with fail
    first
      | (go_region_with (first
          | (go_at_call 59; (with_reducible refine (total_b SC _ T.cols _ HSC.out ((H.out.f1.ext u0.drew).ext u1) HO.out.colsSum.1).mono ?_); rintro e w2 ⟨rfl, rfl⟩)
          | (go_at_call 59; (with_reducible refine (total_b SR _ T.rows _ HSR.out ((H.out.f0.ext u0.drew).ext u1) HO.out.rowsSum.1).mono ?_); rintro e w2 ⟨rfl, rfl⟩)
          | (go_at_call 53; refine (implIsTransport_b true _ T _ HT.out (H.out.ext u0.drew)).mono ?_; rintro e w1 ⟨rfl, u1⟩; have y0 := Ext.cell u1 (show (World.drew _).cell? _ = _ from k0); have y1 := Ext.cell u1 (show (World.drew _).cell? _ = _ from k1))))
      | fail
    all_goals go_wp2
    all_goals go_ret3
    all_goals exact RetInts2.none (u0.drew.trans u1)
  have hb : (SR != SC) = false := by simp [hs]
  have HEQ : Hid (T.rows.sum = T.cols.sum) := Lib.hid (by rw [HSR.out, HSC.out]; exact hs)
  clear hs
  by_cases hfl : ∃ x, Flow (NetT T) x
  · have HE : Hid (findC T = none) := Lib.hid (by
      obtain ⟨x, hx⟩ := hfl
      rw [findC_on HT.out HEQ.out, no_cut_flow hx])
    have HFL := Lib.hid hfl; clear hfl
    rw [HE.out]
    go_enter Try.func25, Try.ntmps25
    go_wp2_with fail
    go_region_held3 (fun w' => w'.cell? ⟨w.heap.size, 0, none⟩ = some (.slice a0 T.rows.length c0) ∧ w'.cell? ⟨w.heap.size, 1, none⟩ = some (.slice a1 T.cols.length c1) ∧ w'.cell? ⟨w.heap.size, 2, none⟩ = some (.slice a2 T.lo.length c2) ∧ w'.cell? ⟨w.heap.size, 3, none⟩ = some (.slice a3 T.hi.length c3))
      (first | exact ⟨Ext.cell u2 (Ext.cell u1 k0), Ext.cell u2 (Ext.cell u1 k1), Ext.cell u2 (Ext.cell u1 k2), Ext.cell u2 (Ext.cell u1 k3)⟩ | exact ⟨Ext.cell u1 k0, Ext.cell u1 k1, Ext.cell u1 k2, Ext.cell u1 k3⟩ | go_keep)
      ((first
        | (go_at_call 62; (with_reducible refine (anyFlow_yes _ T _ ((H.out.ext u0.drew).ext u1) HO.out HFL.out).mono ?_); rintro e w2 ⟨b9, o9, n9, cap9, rfl, u2⟩)
        | (go_at_call 59; (with_reducible refine (total_b SC _ T.cols _ HSC.out ((H.out.f1.ext u0.drew).ext u1) HO.out.colsSum.1).mono ?_); rintro e w2 ⟨rfl, rfl⟩)
        | (go_at_call 59; (with_reducible refine (total_b SR _ T.rows _ HSR.out ((H.out.f0.ext u0.drew).ext u1) HO.out.rowsSum.1).mono ?_); rintro e w2 ⟨rfl, rfl⟩)
        | (go_at_call 53; (with_reducible refine (implIsTransport_b true _ T _ HT.out (H.out.ext u0.drew)).mono ?_); rintro e w1 ⟨rfl, u1⟩)))
    go_wp2
    go_ret3
    exact RetInts2.none ((u0.drew.trans u1).trans u2)
  have HFL := Lib.hid hfl; clear hfl
  have HE : Hid (findC T = firstCut T) := Lib.hid (findC_on HT.out HEQ.out)
  rw [HE.out]
  have hd := HO.out.dims
  have d2 := hd.2.1
  have d4 := hd.2.2.2.1
  clear hd
  obtain ⟨M, hM⟩ : ∃ M, 2 ^ T.rows.length = M := ⟨_, rfl⟩
  have hM256 : M ≤ 256 := by rw [← hM]; exact Nat.le_trans (Nat.pow_le_pow_right (by omega) d2) (by omega)
  have hsh : wrap64 ((2 : Int) ^ T.rows.length) = (M : Int) := by
    rw [show (2 : Int) ^ T.rows.length = (M : Int) by rw [← hM]; simp]
    unfold wrap64; omega
  have HM := Lib.hid hM; clear hM
  go_enter Try.func25, Try.ntmps25
  go_wp2_with fail
  go_region_held3 (fun w' => w'.cell? ⟨w.heap.size, 0, none⟩ = some (.slice a0 T.rows.length c0) ∧ w'.cell? ⟨w.heap.size, 1, none⟩ = some (.slice a1 T.cols.length c1) ∧ w'.cell? ⟨w.heap.size, 2, none⟩ = some (.slice a2 T.lo.length c2) ∧ w'.cell? ⟨w.heap.size, 3, none⟩ = some (.slice a3 T.hi.length c3))
    (first | exact ⟨Ext.cell u2 (Ext.cell u1 k0), Ext.cell u2 (Ext.cell u1 k1), Ext.cell u2 (Ext.cell u1 k2), Ext.cell u2 (Ext.cell u1 k3)⟩ | exact ⟨Ext.cell u1 k0, Ext.cell u1 k1, Ext.cell u1 k2, Ext.cell u1 k3⟩ | go_keep)
    ((first
      | (go_at_call 62; (with_reducible refine (anyFlow_no _ T _ ((H.out.ext u0.drew).ext u1) HO.out HFL.out).mono ?_); rintro e w2 ⟨rfl, u2⟩)
      | (go_at_call 59; (with_reducible refine (total_b SC _ T.cols _ HSC.out ((H.out.f1.ext u0.drew).ext u1) HO.out.colsSum.1).mono ?_); rintro e w2 ⟨rfl, rfl⟩)
      | (go_at_call 59; (with_reducible refine (total_b SR _ T.rows _ HSR.out ((H.out.f0.ext u0.drew).ext u1) HO.out.rowsSum.1).mono ?_); rintro e w2 ⟨rfl, rfl⟩)
      | (go_at_call 53; (with_reducible refine (implIsTransport_b true _ T _ HT.out (H.out.ext u0.drew)).mono ?_); rintro e w1 ⟨rfl, u1⟩)))
  have x2 := (u0.drew.trans u1).trans u2
  have b2 := b0.ext (((Ext.refl _).drew.trans u1).trans u2)
  have y0 := b2.cell 0 (by simp)
  go_wp2
  rw [hsh]
  go_loopw [29] (fun i wr => ∃ s : Nat, s ≤ M ∧ i = .int .i64 s ∧ (∀ s', s' < s → cutAt T s' = false) ∧ Ext w2 wr) (fun i _ => M - (intOf i).toNat)
  case atStart => exact ⟨0, Nat.zero_le _, rfl, fun s' h => by omega, Ext.refl _⟩
  case round =>
    obtain ⟨s, hs, rfl, hno, hx⟩ := hrel
    obtain ⟨wo, rfl⟩ : ∃ wo : World, wo = wr := ⟨_, rfl⟩
    have HN := Lib.hid hno; clear hno
    have b3 := b2.ext hx
    have z0 := b3.cell 0 (by simp)
    have z1 := b3.cell 1 (by simp)
    have z2 := b3.cell 2 (by simp)
    have z3 := b3.cell 3 (by simp)
    have x3 := x2.trans hx
    by_cases hlt : s < M
    · go_wp2_with fail
      refine (membersOf_c s T.rows.length _ (by rw [HM.out]; exact hlt) d2).mono ?_
      rintro e w3 ⟨v3, rfl, o3, u3⟩
      have O3 := Lib.hid o3; clear o3
      have b4 := b3.ext u3
      have z0' := b4.cell 0 (by simp)
      have z1' := b4.cell 1 (by simp)
      have z2' := b4.cell 2 (by simp)
      have z3' := b4.cell 3 (by simp)
      have x4 := x3.trans u3
      go_wp2_with fail
      refine (colsFor_c _ T _ (bitRows T s) _ (H.out.ext x4) O3.out.ints HO.out).mono ?_
      rintro e w4 ⟨v4, rfl, o4, u4⟩
      have O4 := Lib.hid o4; clear o4
      have b5 := b4.ext u4
      have z0'' := b5.cell 0 (by simp)
      have z1'' := b5.cell 1 (by simp)
      have z2'' := b5.cell 2 (by simp)
      have z3'' := b5.cell 3 (by simp)
      have x5 := x4.trans u4
      cases hc : cutAt T s
      · have HC : Hid (cutB T (bitRows T s) (colsFor T (bitRows T s)) = false) := Lib.hid hc
        have HNX : Hid (∀ s', s' < s + 1 → cutAt T s' = false) := Lib.hid (fun s' h => by
          by_cases e : s' = s
          · subst e; exact hc
          · exact HN.out s' (by omega))
        clear hc
        go_wp2_with fail
        refine (isCut_b false _ T _ (bitRows T s) _ (colsFor T (bitRows T s)) _ HC.out (H.out.ext x5) (O3.out.ints.ext u4) O4.out.ints HO.out (bits_rising T s) (cols_rising T _)).mono ?_
        rintro e w5 ⟨rfl, u5⟩
        go_wp2
        go_roundw
        case rel => exact ⟨s + 1, by omega, by go_num, HNX.out, ((hx.trans u3).trans u4).trans u5⟩
        case measure => simp [intOf]; omega
      · have HC : Hid (cutB T (bitRows T s) (colsFor T (bitRows T s)) = true) := Lib.hid hc
        have HFC := Lib.hid (firstCut_some HN.out (by rw [HM.out]; exact hlt) hc)
        clear hc
        go_wp2_with fail
        refine (isCut_b true _ T _ (bitRows T s) _ (colsFor T (bitRows T s)) _ HC.out (H.out.ext x5) (O3.out.ints.ext u4) O4.out.ints HO.out (bits_rising T s) (cols_rising T _)).mono ?_
        rintro e w5 ⟨rfl, u5⟩
        go_wp2
        go_ret3
        rw [HFC.out]
        exact ⟨v3, v4, w3.heap.size, rfl, x4.size, Nat.le_trans u4.size u5.size, ((O3.out.ext u4).ext u5).mono x3.size (Nat.le_refl _), (O4.out.ext u5).mono (Nat.le_refl _) u5.size, x5.trans u5⟩
    · have HFC := Lib.hid (firstCut_none (T := T) (fun s' h => HN.out s' (by have := HM.out; omega)))
      go_wp2
      go_ret3
      rw [HFC.out]
      exact RetInts2.none x3
end Go.Proofs.Ythdfiebacomilaa
