/- The network of roundings, the spec's: oNetwork returns what rnT says. -/
import Derived.Test.YtjpomfdmgaambaaRnP
import Derived.Test.YtjpomfdmgaambaaNetD
import Derived.Test.YtjpomfdmgaambaaApp
import Derived.BigRegion
import Derived.Deep.CutRange
import Derived.Deep.CutBlock
import Derived.Deep.RegionHeld3
namespace Go.Proofs.Ytjpomfdmgaambaa
open Go.RowKit

theorem rb_sub {v : Value} {k : Nat} (h : rb v = some k) : v.ownBlock = some k := by
  cases v <;> try (exact h)
  rename_i a b c
  cases c with
  | zero => cases h
  | succ c => exact h
theorem Thr.ofTwo {w1 wo w3 : World} {B kr kl kh HL HH : Nat} {R : List Int} {L H : List (List Int)} {rv lv hv a b : Value} {rl rh : List Value} {xs ys : List Int} (hA : NetB w1 B R L H kr kl kh HL HH wo rv (.slice none 0 0) lv hv rl rh) (hT : Two wo w3 a b xs ys) :
    Thr wo w3 B rv lv hv a b (.slice none 0 0) xs ys [] :=
  ⟨.inl hT.ra, .inl hT.rb, .inr ⟨rfl, none, rfl⟩, fun k e e2 => hT.d k (rb_sub e) (rb_sub e2), fun k e e2 => (by cases e2), fun k e e2 => (by cases e2), hT.ext.upd, by have := hA.lt; have := hA.sz; omega, hA.box.ext hT.ext⟩
theorem Fre.nil {lo : Nat} {wr : World} {rv : Value} {rl rh : List Value} {Lk Hk : List (List Int)} : Fre lo wr rv rl rh Lk Hk (.slice none 0 0) [] :=
  ⟨.inr ⟨rfl, none, rfl⟩, fun k e => (by cases e), fun k e => (by cases e), fun k e => (by cases e)⟩
theorem Fre.ext {lo : Nat} {wr wb : World} {rv v : Value} {rl rh : List Value} {Lk Hk : List (List Int)} {xs : List Int} (h : Fre lo wr rv rl rh Lk Hk v xs) (E : Ext wr wb) : Fre lo wb rv rl rh Lk Hk v xs :=
  ⟨h.row.ext E, h.f1, h.f2, h.f3⟩
/-- the row appended to hi in a loop's round, where no third slice stands beside -/
theorem stage17 {w1 w3 w4 w6 : World} {B kr kl kh HL HH g6 cp6 lo : Nat} {R : List Int} {L H : List (List Int)} {rv lv hv b : Value} {rl rh : List Value} (hA : NetB w1 B R L H kr kl kh HL HH w3 rv (.slice none 0 0) lv hv rl rh) (hb : IRow lo w3 b (rowAt H kh)) (hk : kh < H.length) (hB : w1.heap.size ≤ HH) (hM : HH ≤ lo)
    (hrv : ∀ b, rv.ownBlock = some b → b < lo) (E : Ext w3 w4)
    (hg : w4.grownBy w6 hv.ownBlock) (hat : hv.ownBlock = some g6 ∨ g6 = w4.heap.size) (hown : w6.ownsRow w1.heap.size 22 1 (.slice (some ⟨g6, 0, none⟩) (kh + 1) cp6) (kh + 1) (rh ++ [b])) :
    NetB w1 B R L H kr kl (kh + 1) HL w6.heap.size (w6.setCell ⟨B, 3, none⟩ (.slice (some ⟨g6, 0, none⟩) (kh + 1) cp6)) rv (.slice none 0 0) lv (.slice (some ⟨g6, 0, none⟩) (kh + 1) cp6) rl (rh ++ [b]) :=
  (hA.ext' E).addHi hk ((hb.ext E).own (Nat.le_refl _)) hM hrv hB hg hat hown
theorem rb_full {lo : Nat} {w : World} {v : Value} {xs : List Int} (h : IRow lo w v xs) (hx : xs ≠ []) : rb v = some (blk v) := by
  rcases (show RowZ lo w v xs from .inl h).split with ⟨h1, h2⟩ | ⟨h1, _⟩
  · obtain ⟨g, cp, cu, e, _⟩ := h1.2.resolve_left (fun hn => hx (List.eq_nil_of_length_eq_zero hn.2))
    rw [h2, e]; rfl
  · exact absurd h1 hx
theorem Fre.grow {lo : Nat} {wr w3 : World} {rv v b : Value} {rl rh : List Value} {Lk Hk : List (List Int)} {xs : List Int} (h : Fre lo wr rv rl rh Lk Hk v xs) (hg : wr.grownBy w3 (rb b)) (hd : ∀ k, rb b = some k → rb v ≠ some k) : Fre lo w3 rv rl rh Lk Hk v xs :=
  ⟨h.row.upd (Upd.of_grown hg) (fun k e e2 => hd k e2 e), h.f1, h.f2, h.f3⟩
theorem IRow.owns {lo n : Nat} {w : World} {v : Value} {xs : List Int} (h : IRow lo w v xs) (hn : xs.length = n) : w.ownsRow lo 3 1 v n (xs.map (Value.int .i64)) := by
  subst hn; exact h
theorem GRow.owns {lo hi n : Nat} {w : World} {v : Value} {rvs : List Value} {xss : List (List Int)} (h : GRow lo hi w v rvs xss) (hn : xss.length = n) : w.ownsRow lo 22 1 v n rvs := by
  subst hn; exact h.own
theorem oDown_c (v base : Int) (w : World) (h0 : 0 ≤ v) (h1 : v ≤ 1000000) (h2 : 2 ≤ base) (h3 : base ≤ 100) :
    Calls Try.prog 66 #[.int .i64 v, .int .i64 base] w fun e w' => e = .returned (.int .i64 (dnV base v)) ∧ w = w' := by
  unfold dnV
  go_enter Try.func66, Try.ntmps66
  go_wp2
  go_ret
  exact ⟨rfl, rfl⟩
theorem oUp_c (v base : Int) (w : World) (h0 : 0 ≤ v) (h1 : v ≤ 1000000) (h2 : 2 ≤ base) (h3 : base ≤ 100) :
    Calls Try.prog 67 #[.int .i64 v, .int .i64 base] w fun e w' => e = .returned (.int .i64 (upV base v)) ∧ w = w' := by
  unfold upV
  go_enter Try.func67, Try.ntmps67
  go_wp2
  go_ret
  exact ⟨rfl, rfl⟩

set_option maxRecDepth 100000 in
set_option maxHeartbeats 12800000 in
theorem oNetwork_c (v1 : Value) (x : List (List Int)) (n m : Nat) (base : Int) (w : World) (h1 : Grid w v1 x) (hn : x.length = n) (hM : MatOk x m) (hE : ∀ k l, k < n → l < m → 0 ≤ ix (rowAt x k) l ∧ ix (rowAt x k) l ≤ 10000) (h8 : 1 ≤ n ∧ n ≤ 7 ∧ 1 ≤ m ∧ m ≤ 7) (hb2 : 2 ≤ base) (hb3 : base ≤ 100) :
    Calls Try.prog 39 #[v1, .int .i64 base] w fun e w' => ∃ v', e = .returned v' ∧ TrN w.heap.size w'.heap.size w' v' (rnT x n m base) ∧ Ext w w' := by
  have H1 := Lib.hid h1
  have HM := Lib.hid hM
  have HE := Lib.hid hE; clear hE
  have hm := hM.row 0 (by omega)
  have HROW := Lib.hid (fun k (hk : k < n) => hM.row k (by omega))
  clear hM
  obtain ⟨ax, cx, rfl, p1, p2, p3⟩ := h1
  have GX := Lib.hid p3; clear p3
  rw [hn] at H1 p1 ⊢
  have HN := Lib.hid hn; clear hn
  have HM0 := Lib.hid hm; clear hm
  have EN := Lib.hid (show (rowS x).length = n by rw [rowS_length]; exact HN.out)
  have EM := Lib.hid (show (colS x m).length = m from colS_length x m)
  have hb := all_bd HM.out HE.out HN.out
  have hb0 := hb.1
  have hb1 := hb.2
  clear hb
  obtain ⟨V, hV⟩ : ∃ V, (rowS x).sum = V := ⟨_, rfl⟩
  rw [hV] at hb0 hb1
  have HV := Lib.hid hV; clear hV
  have u0 := (Ext.refl w).alloc (.cells #[.slice none 0 0, .slice none 0 0, .slice none 0 0, .slice none 0 0] 30)
  have b0 := Box.new w 30 #[.slice none 0 0, .slice none 0 0, .slice none 0 0, .slice none 0 0] rfl
  have HS0 := Lib.hid (show (w.alloc (.cells #[.slice none 0 0, .slice none 0 0, .slice none 0 0, .slice none 0 0] 30)).heap.size = w.heap.size + 1 by simp)
  obtain ⟨R, C, L, H, hT, hNO⟩ : ∃ R C L H, rnT x n m base = ⟨R, C, L, H⟩ ∧ NetOf x n m base R C L H := ⟨_, _, _, _, rnT_eq, netOf⟩
  rw [hT]
  have HNO := Lib.hid hNO; clear hNO hT
  go_enter Try.func39, Try.ntmps39
  go_wp2_with fail
  refine (oMargins_c _ x m _ (H1.out.ext u0) HM.out).mono ?_
  rintro e w1 ⟨v', rfl, o1, u1⟩
  have O1 := Lib.hid o1.read
  obtain ⟨a0, c0, a1, c1, a2, c2, ev, _, q1, q2⟩ := o1.read.form
  clear o1
  have ev2 : v' = .agg #[.slice a0 n c0, .slice a1 n c1, .slice a2 m c2, .int .i64 V] := by
    rw [ev]
    show Value.agg #[.slice a0 x.length c0, .slice a1 (rowS x).length c1, .slice a2 (colS x m).length c2, .int .i64 (rowS x).sum] = _
    rw [HN.out, EN.out, EM.out, HV.out]
  subst ev2
  clear ev q1 q2
  have U1 := Lib.hid (And.intro u1 (u0.trans u1)); clear u1 u0
  go_wp2_with fail
  obtain ⟨Z, hZ⟩ : ∃ Z, dnV base V = Z := ⟨_, rfl⟩
  have hZb := dnV_bd (base := base) hb0 hb1 hb2
  rw [hZ] at hZb
  have HZ := Lib.hid hZ; clear hZ
  obtain ⟨w2, hw2⟩ : ∃ w2 : World, w2 = ((((w1.alloc (Obj.cells #[Value.slice a0 n c0, Value.slice a1 n c1, Value.slice a2 m c2, Value.int IntKind.i64 V] 44)).alloc (Obj.cells #[Value.slice none 0 0, Value.slice none 0 0, Value.slice none 0 0, Value.slice none 0 0] 30)).alloc (Obj.cells #[] 3)).alloc (Obj.cells #[] 3)) := ⟨_, rfl⟩
  rw [← hw2]
  have z2 : w2.heap.size = w1.heap.size + 4 := by rw [hw2]; simp
  have UM : Ext w1 w2 := by rw [hw2]; exact ((((Ext.refl _).alloc _).alloc _).alloc _).alloc _
  have BM : Box w2 w1.heap.size 44 #[.slice a0 n c0, .slice a1 n c1, .slice a2 m c2, .int .i64 V] := by
    rw [hw2]; exact (((Box.new w1 _ _ rfl).alloc _).alloc _).alloc _
  have BT : Box w2 (w1.heap.size + 1) 30 #[.slice none 0 0, .slice none 0 0, .slice none 0 0, .slice none 0 0] := by
    rw [hw2]; exact ((Box.new (w1.alloc _) _ _ (by simp)).alloc _).alloc _
  clear hw2
  obtain ⟨B, hB⟩ : ∃ B, w1.heap.size + 1 = B := ⟨_, rfl⟩
  rw [hB] at BT ⊢
  obtain ⟨d7, h7⟩ : ∃ b, B + 1 = b := ⟨_, rfl⟩
  rw [h7]
  obtain ⟨d8, h8'⟩ : ∃ b, d7 + 1 = b := ⟨_, rfl⟩
  rw [h8']
  clear h7 h8'
  have sz1 := U1.out.2.size
  have hRd : Hid (∀ wr, Upd (fun b => b = B) w2 wr → Ext w1 wr) := Lib.hid (fun wr u => UM.of_upd u (fun b hb => by omega))
  have hMr : Hid (∀ wr, Upd (fun b => b = B) w2 wr → Box wr w1.heap.size 44 #[.slice a0 n c0, .slice a1 n c1, .slice a2 m c2, .int .i64 V]) := Lib.hid (fun wr u => BM.upd u (fun e => by omega))
  have m3 := BM.cell 3 (by simp)
  obtain ⟨M, hM⟩ : ∃ M, w1.heap.size = M := ⟨_, rfl⟩
  rw [hM] at hMr m3 z2 sz1 hB ⊢
  have HMM := Lib.hid hM; clear hM BM
  have HD : Hid (∀ w', Calls Try.prog 66 #[.int .i64 V, .int .i64 base] w' fun e w'' => e = .returned (.int .i64 Z) ∧ w'' = w') := Lib.hid (fun w' => by
    have := oDown_c V base w' hb0 (by omega) hb2 hb3
    rw [HZ.out] at this
    exact this.mono (fun _ _ h => ⟨h.1, h.2.symm⟩))
  go_cut [9, 10] from 25 to 34 (fun s9 s10 wx => s9 = .int .i64 (-Z) ∧ s10 = .int .i64 (-Z) ∧ Ext w2 wx)
  case first =>
    go_quiet ((go_at_call 66; exact Calls.quiet_of_same (HD.out _)))
    go_wp2_with fail
    go_meet
    exact ⟨rfl, rfl, (Ext.refl w2).drewN _⟩
  case rest =>
    obtain ⟨rfl, rfl, E2A⟩ := hcut
    obtain ⟨wA, rfl⟩ : ∃ wA : World, wA = wc := ⟨_, rfl⟩
    have hst : NetB w2 B R L H 0 0 0 w2.heap.size w2.heap.size wA (.slice none 0 0) (.slice none 0 0) (.slice none 0 0) (.slice none 0 0) [] [] :=
      ⟨BT.ext E2A, IRow.nil, GRow.nil, GRow.nil, fun b e => by simp [Value.ownBlock] at e, fun b e => by simp [Value.ownBlock] at e, fun b e => by simp [Value.ownBlock] at e, E2A.upd, by omega, E2A.size, E2A.size⟩
    have HST := Lib.hid hst; clear hst BT E2A m3 HS0
    have HB0 := Lib.hid b0; clear b0
    have hmr0 := O1.out.f1
    have hmc0 := O1.out.f2
    obtain ⟨_, _, e1, q1, q2, IR⟩ := hmr0
    obtain ⟨_, _, e2, q3, q4, IC⟩ := hmc0
    simp only [Value.slice.injEq] at e1 e2
    obtain ⟨rfl, q5, rfl⟩ := e1
    obtain ⟨rfl, q6, rfl⟩ := e2
    clear q1 q2 q3 q4 q5 q6
    have HIR := Lib.hid (show IntsA w1 a1 (rowS x) from IR); clear IR
    have HIC := Lib.hid (show IntsA w1 a2 (colS x m) from IC); clear IC
    obtain ⟨mb, mo, rfl, q1⟩ := HIR.out 0 (by rw [EN.out]; omega)
    obtain ⟨cb, co, rfl, q2⟩ := HIC.out 0 (by rw [EM.out]; omega)
    clear q1 q2
    have hUS := upR_sum HM.out HE.out HN.out hb2 hb3
    have hTS : Hid (∀ k, 0 ≤ ((upR x base).take k).sum ∧ ((upR x base).take k).sum ≤ 640800) := Lib.hid (fun k => by
      have := take_sum_range (upR_el HM.out HE.out HN.out hb2 hb3) (upR_length HN.out) k
      omega)
    clear hUS
    go_wp2_with fail
    go_loopw [10, 37] (fun c i wr => ∃ (k : Nat) (rv lv hv : Value) (rl rh : List Value) (HL HH : Nat), k ≤ n ∧ c = .int .i64 (((upR x base).take k).sum - Z) ∧ i = .int .i64 k ∧ NetB w2 B R L H k k k HL HH wr rv (.slice none 0 0) lv hv rl rh ∧ w2.heap.size ≤ HL ∧ w2.heap.size ≤ HH) (fun _ i _ => n - (intOf i).toNat)
    case atStart => exact ⟨0, _, _, _, _, _, _, _, Nat.zero_le _, by simp, rfl, HST.out, Nat.le_refl _, Nat.le_refl _⟩
    case round =>
      obtain ⟨k, rv, lv, hv, rl, rh, HL, HH, hk, rfl, rfl, hA, hHL, hHH⟩ := hrel
      obtain ⟨wo, rfl⟩ : ∃ wo : World, wo = wr := ⟨_, rfl⟩
      have HA := Lib.hid hA; clear hA HST
      have hxo := U1.out.2.trans (hRd.out wo HA.out.upd)
      have HXO := Lib.hid hxo
      by_cases hlt : k < n
      · -- BEGIN cut rows
        obtain ⟨b, o, ar, cr, rfl, hc0, r1, r2, r3⟩ := GX.out.at_ (k := k) (by rw [HN.out]; exact hlt)
        have hc := Ext.cell hxo hc0
        clear hc0 hxo
        rw [HROW.out k hlt] at hc r1
        have R3 := Lib.hid r3; clear r3
        have szo := HA.out.sz
        go_wp2_with fail
        go_loopw [13, 14, 44] (fun lo hi i wr => ∃ l : Nat, l ≤ m ∧ i = .int .i64 l ∧ Two wo wr lo hi ((rowAt L k).take l) ((rowAt H k).take l)) (fun _ _ i _ => m - (intOf i).toNat)
        case atStart => exact ⟨0, Nat.zero_le _, rfl, by simpa using Two.nil wo⟩
        case round =>
          obtain ⟨l, hl, rfl, hT⟩ := hrel
          obtain ⟨wi, rfl⟩ : ∃ wi : World, wi = wr := ⟨_, rfl⟩
          have HT := Lib.hid hT; clear hT
          by_cases hl2 : l < m
          · -- BEGIN cut cell
            have hxi := HXO.out.trans HT.out.ext
            obtain ⟨bx, ox, rfl, hcx0⟩ := R3.out l (by rw [HROW.out k hlt]; exact hl2)
            have hcx := Ext.cell hxi hcx0
            have EB := HE.out k l hlt hl2
            have EL := Lib.hid (HNO.out.lo k l hlt hl2)
            have EH := Lib.hid (HNO.out.hi k l hlt hl2)
            obtain ⟨X, hX⟩ : ∃ X, ix (rowAt x k) l = X := ⟨_, rfl⟩
            rw [hX] at hcx EB EL EH
            clear hxi hcx0 hX hc
            have hD := oDown_c X base wi EB.1 (by omega) hb2 hb3
            rw [← EL.out] at hD
            have HDl := Lib.hid hD; clear hD
            have hTl1 : ((rowAt L k).take l).length = l := by rw [List.length_take, HNO.out.ll k (by omega)]; omega
            have hTl2 : ((rowAt H k).take l).length = l := by rw [List.length_take, HNO.out.hl k (by omega)]; omega
            have HSL := Lib.hid (take_succ_ix (xs := rowAt L k) (k := l) (by rw [HNO.out.ll k (by omega)]; omega))
            have HSH := Lib.hid (take_succ_ix (xs := rowAt H k) (k := l) (by rw [HNO.out.hl k (by omega)]; omega))
            have hown1 := HT.out.ra
            unfold IRow at hown1
            rw [hTl1] at hown1
            have HOWN1 := Lib.hid hown1; clear hown1
            have HTL1 := Lib.hid hTl1; clear hTl1
            have HTL2 := Lib.hid hTl2; clear hTl2
            have hszo2 := HT.out.ext.size
            obtain ⟨ya, hya⟩ : ∃ y, ix (rowAt L k) l = y := ⟨_, rfl⟩
            obtain ⟨yb, hyb⟩ : ∃ y, ix (rowAt H k) l = y := ⟨_, rfl⟩
            rw [hya] at HSL HDl
            rw [hyb] at HSH EH
            clear hya hyb EL
            go_wp2_with fail
            refine HDl.out.mono ?_
            rintro e w' ⟨rfl, rfl⟩
            go_wp2_with (at_builtin; go_loud (refine app1 _ rfl _ _ 22 3 rfl (.int .i64 0) 8 Try.underlying22 info_int rfl wo.heap.size _ l _ rfl (HOWN1.out.kept (row := none) ⟨((Ext.refl _).alloc _).os, ((Ext.refl _).alloc _).tape, ((Ext.refl _).alloc _).output, ((Ext.refl _).alloc _).size, fun k hk _ => ((Ext.refl _).alloc _).block hk⟩ (by cases (Value.ownBlock _) <;> simp)) wi.heap.size 1 3 (.int .i64 ya) rfl (Box.new _ _ _ rfl) rfl (by omega) (by omega) (by simp; omega) ?_))
            intro g cp w3 hown3 hgrow hat hlt3
            have T3 := (HT.out.ext' ((Ext.refl wi).alloc (.cells #[.int .i64 ya] 3))).addA (x := ya) HTL1.out hgrow (hat.imp id (fun e => e.trans (by simp))) (by rw [List.map_take]; exact hown3)
            have hs3 := T3.ext.size
            have hown2 := T3.rb
            unfold IRow at hown2
            rw [HTL2.out] at hown2
            have HOWN2 := Lib.hid hown2; clear hown2
            have HT3 := Lib.hid T3; clear T3
            clear hgrow hat hown3 HT HOWN1 hcx
            have hU := oUp_c X base w3 EB.1 (by omega) hb2 hb3
            rw [← EH.out] at hU
            have HUl := Lib.hid hU; clear hU
            go_wp2_with fail
            refine HUl.out.mono ?_
            rintro e w' ⟨rfl, rfl⟩
            go_wp2_with (at_builtin; go_loud (refine app1 _ rfl _ _ 22 3 rfl (.int .i64 0) 8 Try.underlying22 info_int rfl wo.heap.size _ l _ rfl (HOWN2.out.kept (row := none) ⟨((Ext.refl _).alloc _).os, ((Ext.refl _).alloc _).tape, ((Ext.refl _).alloc _).output, ((Ext.refl _).alloc _).size, fun k hk _ => ((Ext.refl _).alloc _).block hk⟩ (by cases (Value.ownBlock _) <;> simp)) w3.heap.size 1 3 (.int .i64 yb) rfl (Box.new _ _ _ rfl) rfl (by omega) (by omega) (by simp; omega) ?_))
            intro g6 cp6 w6 hown6 hgrow6 hat6 hlt6
            have T6 := ((HT3.out.swap.ext' ((Ext.refl w3).alloc (.cells #[.int .i64 yb] 3))).addA (x := yb) HTL2.out hgrow6 (hat6.imp id (fun e => e.trans (by simp))) (by rw [List.map_take]; exact hown6)).swap
            have HT6 := Lib.hid T6; clear T6
            clear hgrow6 hat6 hown6
            go_wp2_with fail
            go_roundw
            case rel => exact ⟨l + 1, by omega, by go_num, by rw [HSL.out, HSH.out]; exact HT6.out⟩
            case measure => simp [intOf]; omega
            -- END cut cell
          · have hle : m = l := by omega
            subst hle
            have RB := rowS_bd HM.out HE.out HN.out hlt
            have FR := Lib.hid (HNO.out.rw k hlt)
            have FH := Lib.hid (HNO.out.hiM k hlt)
            have FU := Lib.hid (ix_upR (base := base) HN.out hlt)
            have em := (hMr.out wi (HA.out.upd.trans HT.out.ext.upd)).cell 1 (by simp)
            have er : wi.cell? ⟨mb, mo + k, none⟩ = some (.int .i64 (ix (rowS x) k)) := by
              obtain ⟨_, _, e, hc⟩ := HIR.out k (by rw [EN.out]; exact hlt)
              simp only [Option.some.injEq, Addr.mk.injEq, and_true] at e
              obtain ⟨rfl, rfl⟩ := e
              exact Ext.cell ((hRd.out wo HA.out.upd).trans HT.out.ext) hc
            obtain ⟨r, hr⟩ : ∃ r, ix (rowS x) k = r := ⟨_, rfl⟩
            rw [hr] at RB FR FH FU er
            clear hr hc
            have hub := upV_bd RB.1 RB.2 hb2 hb3
            have hdb := dnV_bd RB.1 RB.2 hb2
            have hD := fun w' => (oDown_c r base w' RB.1 (by omega) hb2 hb3)
            have hU := fun w' => (oUp_c r base w' RB.1 (by omega) hb2 hb3)
            obtain ⟨yu, hyu⟩ : ∃ y, upV base r = y := ⟨_, rfl⟩
            obtain ⟨yd, hyd⟩ : ∃ y, dnV base r = y := ⟨_, rfl⟩
            rw [hyu] at FR FH FU hub
            rw [hyd] at FH hdb
            simp only [hyu] at hU
            simp only [hyd] at hD
            have HDr := Lib.hid hD; clear hD
            have HUr := Lib.hid hU; clear hU
            clear hyu hyd
            have hll := HNO.out.ll k (by omega)
            have hhl := HNO.out.hl k (by omega)
            have HTL1 := Lib.hid (show ((rowAt L k).take m).length = m by rw [List.length_take]; omega)
            have HTL2 := Lib.hid (show ((rowAt H k).take m).length = m by rw [List.length_take]; omega)
            have HEL := Lib.hid (show (rowAt L k).take m ++ [0] = rowAt L k by
              have := take_succ_ix (xs := rowAt L k) (k := m) (by omega)
              rw [List.take_of_length_le (by omega), HNO.out.loM k hlt] at this
              exact this.symm)
            have HEH := Lib.hid (show (rowAt H k).take m ++ [yu - yd] = rowAt H k by
              have := take_succ_ix (xs := rowAt H k) (k := m) (by omega)
              rw [List.take_of_length_le (by omega), FH.out] at this
              exact this.symm)
            clear hll hhl
            have hKL := HNO.out.l1
            have hKH := HNO.out.h1
            have HKL := Lib.hid (show (L.take k).length = k by rw [List.length_take]; omega)
            have HKH := Lib.hid (show (H.take k).length = k by rw [List.length_take]; omega)
            have HKR := Lib.hid (show (R.take k).length = k by rw [List.length_take, HNO.out.r1]; omega)
            have HLL := Lib.hid (show k < L.length by omega)
            have HHL := Lib.hid (show k < H.length by omega)
            have HRL := Lib.hid (show k < R.length by rw [HNO.out.r1]; omega)
            clear hKL hKH
            have hszi := HT.out.ext.size
            have sw := U1.out.2.size
            go_upto_region 16 with fail
            have TH := Lib.hid (Thr.ofTwo HA.out HT.out)
            have hle0 : (rowAt L k) ≠ [] := fun e => by have := HTL1.out; rw [e] at this; simp at this; omega
            have HNE := Lib.hid hle0; clear hle0
            have A0 := HA.out.ext' HT.out.ext
            have k0 := A0.box.cell 2 (by simp)
            have k1 := Ext.cell ((Ext.refl wi).drew.alloc (.cells #[.int .i64 0] 3)) k0
            have k2 := Ext.cell ((Ext.refl wi).alloc (.cells #[.int .i64 0] 3)) k0
            clear A0 em er
            go_cut [10] from 66 to 73 (fun s10 wx => s10 = .int .i64 (((upR x base).take k).sum - Z) ∧ ∃ (lv' : Value) (rl' : List Value) (HL' : Nat), NetB w2 B R L H k (k + 1) k HL' HH wx rv (.slice none 0 0) lv' hv rl' rh ∧ w2.heap.size ≤ HL' ∧ wo.heap.size ≤ wx.heap.size ∧ Fre wo.heap.size wx rv rl' rh (L.take (k + 1)) (H.take k) u14 ((rowAt H k).take m))
            case first =>
              -- BEGIN cut r16
              go_region_law (first
                | (refine appZs _ (by rfl) _ _ 22 (by rfl) wo.heap.size (.int .i64 0) 8 Try.underlying22 info_int rfl _ m _ (by rfl) (TH.out.ra.ext ((Ext.refl wi).drew.alloc (.cells #[.int .i64 0] 3))) HTL1.out wi.heap.size 1 3 0 (by rfl) (Box.new _ _ _ (by simp)) (by omega) (by omega) (by simp; omega) ?_; intro g cp w3 hr3 hgrow hat hlt3
                   have T3 := (TH.out.ext' ((Ext.refl wi).drew.alloc (.cells #[.int .i64 0] 3))).addA hgrow hat hr3
                   rw [HEL.out] at T3
                   have HT3 := Lib.hid T3; clear T3
                   have c3 := HT3.out.box.cell 2 (by simp)
                   have c4 := Ext.cell ((Ext.refl w3).alloc (.cells #[.slice (some ⟨g, 0, none⟩) (m + 1) cp] 22)) c3
                   have E4 := (Ext.refl w3).alloc (.cells #[.slice (some ⟨g, 0, none⟩) (m + 1) cp] 22)
                   have A4 := HA.out.cols (HT3.out.ext' E4).upd (HT3.out.ext' E4).box
                   have HA4 := Lib.hid (And.intro A4 E4); clear A4 E4
                   have s4 := (HT3.out.ext' HA4.out.2).upd.size
                   clear hgrow hat hr3)
                | (refine app1s _ (by rfl) _ _ 23 22 (by rfl) (.slice none 0 0) 24 Try.underlying23 info_ints rfl w2.heap.size _ k rl (by rfl) (HA4.out.1.lo.owns HKL.out) w3.heap.size 1 22 (.slice (some ⟨g, 0, none⟩) (m + 1) cp) (by rfl) (Box.new _ _ _ (by simp)) rfl (by omega) (by omega) (Nat.le_trans szo s4) ?_; intro g6 cp6 w6 hown6 hgrow6 hat6 hlt6
                   have b6 := HA4.out.1.box.upd (Upd.of_grown hgrow6) (fun e => by have := (HA4.out.1.lo.blk e).1; have := HA.out.lt; omega)
                   have c6 := b6.cell 2 (by simp)
                   have f6 := b6.free 2
                   clear b6
                   have S9 := stage29 HA.out HT3.out HNE.out HLL.out hHL HA4.out.2 hgrow6 hat6 hown6
                   have HS9 := Lib.hid (And.intro S9.1 (And.intro S9.2.1 (Nat.le_trans s4 hgrow6.size))); clear S9
                   clear hgrow6 hat6 hown6))
              all_goals
                go_wp2_with fail
                go_meet
                exact ⟨rfl, _, _, _, HS9.out.1, Nat.le_trans szo HS9.out.2.2, by simp [World.setCell]; exact HS9.out.2.2, HS9.out.2.1⟩
              -- END cut r16
            case rest =>
              obtain ⟨rfl, lv', rl', HL', hA, hHL', hsx, hF⟩ := hcut
              obtain ⟨wx, rfl⟩ : ∃ wx : World, wx = wc := ⟨_, rfl⟩
              have HA1 := Lib.hid hA; clear hA
              have HF1 := Lib.hid hF; clear hF
              have k0 := HA1.out.box.cell 3 (by simp)
              have k1 := Ext.cell ((Ext.refl wx).drew.alloc (.cells #[.int .i64 (yu - yd)] 3)) k0
              have k2 := Ext.cell ((Ext.refl wx).alloc (.cells #[.int .i64 (yu - yd)] 3)) k0
              have wyy : IntKind.i64.wrap (yu - yd) = yu - yd := IntWalk.i64_in _ (by omega)
              have HOB := Lib.hid (show HH ≤ wo.heap.size from HA.out.bh)
              have HRB := Lib.hid (show ∀ b, rv.ownBlock = some b → b < wo.heap.size from fun b e => (HA.out.rows.blk e).2)
              go_upto_region 17 with fail
              go_cut [10] from 74 to 88 (fun s10 wz => s10 = .int .i64 (((upR x base).take k).sum - Z) ∧ ∃ (hv' : Value) (rh' : List Value) (HH' : Nat), NetB w2 B R L H k (k + 1) (k + 1) HL' HH' wz rv (.slice none 0 0) lv' hv' rl' rh' ∧ w2.heap.size ≤ HH')
              case first =>
                -- BEGIN cut r17
                go_region_law (first
                  | (refine appZs _ (by rfl) _ _ 22 (by rfl) wo.heap.size (.int .i64 0) 8 Try.underlying22 info_int rfl _ m _ (by rfl) (HF1.out.row.ext ((Ext.refl wx).drew.alloc (.cells #[.int .i64 (yu - yd)] 3))) HTL2.out wx.heap.size 1 3 (yu - yd) (by rfl) (Box.new _ _ _ (by simp)) (by omega) (by omega) (by simp; omega) ?_; intro g cp w3 hr3 hgrow hat hlt3
                     have F1 := HF1.out.ext ((Ext.refl wx).drew.alloc (.cells #[.int .i64 (yu - yd)] 3))
                     have A3 := (HA1.out.ext' ((Ext.refl wx).drew.alloc (.cells #[.int .i64 (yu - yd)] 3))).keepZ F1.row szo hgrow F1.f1 F1.f2 F1.f3
                     rw [HEH.out] at hr3
                     have HA3 := Lib.hid A3; clear A3
                     have c3 := HA3.out.box.cell 3 (by simp)
                     have c4 := Ext.cell ((Ext.refl w3).alloc (.cells #[.slice (some ⟨g, 0, none⟩) (m + 1) cp] 22)) c3
                     have E4 := (Ext.refl w3).alloc (.cells #[.slice (some ⟨g, 0, none⟩) (m + 1) cp] 22)
                     have HA4 := Lib.hid (And.intro (HA3.out.ext' E4) (And.intro E4 hr3)); clear E4 hr3
                     have s4 := HA4.out.1.sz
                     clear hgrow hat F1)
                  | (refine app1s _ (by rfl) _ _ 23 22 (by rfl) (.slice none 0 0) 24 Try.underlying23 info_ints rfl w2.heap.size _ k rh (by rfl) (HA4.out.1.hi.owns HKH.out) w3.heap.size 1 22 (.slice (some ⟨g, 0, none⟩) (m + 1) cp) (by rfl) (Box.new _ _ _ (by simp)) rfl (by omega) (by omega) s4 ?_; intro g6 cp6 w6 hown6 hgrow6 hat6 hlt6
                     have b6 := HA4.out.1.box.upd (Upd.of_grown hgrow6) (fun e => by have := (HA4.out.1.hi.blk e).1; have := HA.out.lt; omega)
                     have c6 := b6.cell 3 (by simp)
                     have f6 := b6.free 3
                     clear b6
                     have S9 := stage17 HA3.out HA4.out.2.2 HHL.out hHH HOB.out HRB.out HA4.out.2.1 hgrow6 hat6 hown6
                     have HS9 := Lib.hid (And.intro S9 (Nat.le_trans s4 hgrow6.size)); clear S9
                     clear hgrow6 hat6 hown6)
                  | (go_simp; go_at_call 67; refine (HUr.out _).mono ?_; rintro e w4 ⟨rfl, rfl⟩)
                  | (go_simp; go_at_call 66; refine (HDr.out _).mono ?_; rintro e w4 ⟨rfl, rfl⟩))
                all_goals
                  go_wp2_with fail
                  go_meet
                  exact ⟨rfl, _, _, _, HS9.out.1, HS9.out.2⟩
                -- END cut r17
              case rest =>
                obtain ⟨rfl, hv', rh', HH', hA, hHH'⟩ := hcut
                obtain ⟨wy, rfl⟩ : ∃ wy : World, wy = wc := ⟨_, rfl⟩
                have HA2 := Lib.hid hA; clear hA
                clear k0 k1 k2
                have k0 := HA2.out.box.cell 0 (by simp)
                have k1 := Ext.cell ((Ext.refl wy).drew.alloc (.cells #[.int .i64 yu] 3)) k0
                have k2 := Ext.cell ((Ext.refl wy).alloc (.cells #[.int .i64 yu] 3)) k0
                have s4 := HA2.out.sz
                have HSU := Lib.hid (show ((upR x base).take (k + 1)).sum = ((upR x base).take k).sum + yu by
                  rw [take_succ_ix (by rw [upR_length HN.out]; exact hlt), FU.out]; simp)
                have hts := hTS.out k
                have wS : IntKind.i64.wrap (((upR x base).take k).sum - Z + yu) = ((upR x base).take (k + 1)).sum - Z := by
                  rw [IntWalk.i64_in _ (by omega), HSU.out]; omega
                go_upto_region 18 with fail
                go_cut [10] from 89 to 96 (fun s10 wz => s10 = .int .i64 (((upR x base).take k).sum - Z) ∧ ∃ (rv' : Value), NetB w2 B R L H (k + 1) (k + 1) (k + 1) HL' HH' wz rv' (.slice none 0 0) lv' hv' rl' rh')
                case first =>
                  -- BEGIN cut r18
                  go_region_law (first
                    | (refine app1s _ (by rfl) _ _ 22 3 (by rfl) (.int .i64 0) 8 Try.underlying22 info_int rfl w2.heap.size _ k _ (by rfl) ((HA2.out.ext' ((Ext.refl wy).drew.alloc (.cells #[.int .i64 yu] 3))).rows.owns HKR.out) wy.heap.size 1 3 (.int .i64 yu) (by rfl) (Box.new _ _ _ (by simp)) rfl (by omega) (by omega) (by simp; omega) ?_; intro g6 cp6 w6 hown6 hgrow6 hat6 hlt6
                       have A4 := HA2.out.ext' ((Ext.refl wy).drew.alloc (.cells #[.int .i64 yu] 3))
                       have b6 := A4.rows.box hgrow6 A4.lt A4.box
                       have c6 := b6.cell 0 (by simp)
                       have f6 := b6.free 0
                       clear b6
                       have S9 := A4.addRow HRL.out hgrow6 hat6 (by rw [FR.out]; exact hown6)
                       have HS9 := Lib.hid S9; clear S9 A4
                       clear hgrow6 hat6 hown6)
                    | (go_simp; go_at_call 67; refine (HUr.out _).mono ?_; rintro e w4 ⟨rfl, rfl⟩))
                  all_goals
                    go_wp2_with fail
                    go_meet
                    exact ⟨rfl, _, HS9.out⟩
                  -- END cut r18
                case rest =>
                  obtain ⟨rfl, rv', hA⟩ := hcut
                  obtain ⟨wz, rfl⟩ : ∃ wz : World, wz = wc := ⟨_, rfl⟩
                  have HA3 := Lib.hid hA; clear hA k0 k1 k2
                  go_wp2_with fail
                  refine (HUr.out _).mono ?_
                  rintro e w4 ⟨rfl, rfl⟩
                  go_wp2_with fail
                  go_roundw
                  case rel => exact ⟨k + 1, _, _, _, _, _, _, _, by omega, rfl, by go_num, HA3.out, hHL', hHH'⟩
                  case measure => simp [intOf]; omega
        -- END cut rows
      · have hke : n = k := by omega
        clear hlt hk hxo
        rw [← hke] at HA ⊢
        clear hke
        have HUS := Lib.hid (show ((upR x base).take n).sum = (upR x base).sum by rw [List.take_of_length_le (by rw [upR_length HN.out]; omega)])
        rw [HUS.out]
        have em := (hMr.out wo HA.out.upd).cell 2 (by simp)
        have hlB := HA.out.lt
        have szo := HA.out.sz
        have HST3 := Lib.hid (show Thr wo wo B rv lv hv (.slice (some ⟨d7, 0, none⟩) 0 0) (.slice (some ⟨d8, 0, none⟩) 0 0) (.slice none 0 0) ((rowAt L n).take 0) ((rowAt H n).take 0) (C.take 0) from
          ⟨.inr ⟨rfl, _, rfl⟩, .inr ⟨rfl, _, rfl⟩, .inr ⟨rfl, _, rfl⟩, fun k e => (by cases e), fun k e => (by cases e), fun k e => (by cases e), Upd.refl _, by omega, HA.out.box⟩)
        have hUS := upR_sum HM.out HE.out HN.out hb2 hb3
        have hTC : Hid (∀ k, 0 ≤ ((upC x m base).take k).sum ∧ ((upC x m base).take k).sum ≤ 640800) := Lib.hid (fun k => by
          have := take_sum_range (upC_el HM.out HE.out HN.out hb2 hb3) (upC_length (base := base)) k
          omega)
        have hKL := HNO.out.l1
        have hKH := HNO.out.h1
        have hll := HNO.out.ll n (by omega)
        have hhl := HNO.out.hl n (by omega)
        have hcl := HNO.out.c1
        have HKL := Lib.hid (show (L.take n).length = n by rw [List.length_take]; omega)
        have HKH := Lib.hid (show (H.take n).length = n by rw [List.length_take]; omega)
        have HKR := Lib.hid (show (R.take n).length = n by rw [List.length_take, HNO.out.r1]; omega)
        have HLL := Lib.hid (show n < L.length by omega)
        have HHL := Lib.hid (show n < H.length by omega)
        have HRL := Lib.hid (show n < R.length by rw [HNO.out.r1]; omega)
        have HTL1 := Lib.hid (show ∀ l, l ≤ m → ((rowAt L n).take l).length = l from fun l hl => by rw [List.length_take]; omega)
        have HTL2 := Lib.hid (show ∀ l, l ≤ m → ((rowAt H n).take l).length = l from fun l hl => by rw [List.length_take]; omega)
        have HTL3 := Lib.hid (show ∀ l, l ≤ m → (C.take l).length = l from fun l hl => by rw [List.length_take]; omega)
        have HSL := Lib.hid (show ∀ l, l < m + 1 → (rowAt L n).take (l + 1) = (rowAt L n).take l ++ [0] from fun l hl => by rw [take_succ_ix (by omega), HNO.out.loN l hl])
        have HSH := Lib.hid (show ∀ l, l < m + 1 → (rowAt H n).take (l + 1) = (rowAt H n).take l ++ [ix (rowAt H n) l] from fun l hl => by rw [take_succ_ix (by omega)])
        have HSC := Lib.hid (show ∀ l, l < m + 1 → C.take (l + 1) = C.take l ++ [ix C l] from fun l hl => by rw [take_succ_ix (by omega)])
        have HAL := Lib.hid (show (rowAt L n).take (m + 1) = rowAt L n ∧ (rowAt H n).take (m + 1) = rowAt H n ∧ C.take (m + 1) = C ∧ L.take (n + 1) = L ∧ H.take (n + 1) = H ∧ R.take (n + 1) = R from
          ⟨List.take_of_length_le (by omega), List.take_of_length_le (by omega), List.take_of_length_le (by omega), List.take_of_length_le (by omega), List.take_of_length_le (by omega), List.take_of_length_le (by rw [HNO.out.r1]; omega)⟩)
        clear hKL hKH hll hhl hcl
        go_wp2_with fail
        go_loopw [7, 8, 9, 106] (fun a b rws i wr => ∃ (l : Nat) (c : Value), l ≤ m ∧ rws = .int .i64 (((upC x m base).take l).sum - Z) ∧ i = .int .i64 l ∧ Thr wo wr B rv lv hv a b c ((rowAt L n).take l) ((rowAt H n).take l) (C.take l)) (fun _ _ _ i _ => m - (intOf i).toNat)
        case atStart => exact ⟨0, _, Nat.zero_le _, by simp, rfl, HST3.out⟩
        case round =>
          clear HST3 em
          obtain ⟨l, c, hl, rfl, rfl, hT⟩ := hrel
          obtain ⟨wi, rfl⟩ : ∃ wi : World, wi = wr := ⟨_, rfl⟩
          have HT := Lib.hid hT; clear hT
          have hszi := HT.out.upd.size
          by_cases hl2 : l < m
          · -- BEGIN cut cols
            have CB := colS_bd HM.out HE.out HN.out hl2
            have FC := Lib.hid (HNO.out.cl l hl2)
            have FH := Lib.hid (HNO.out.hiN l hl2)
            have FU := Lib.hid (ix_upC (x := x) (base := base) hl2)
            have er : wi.cell? ⟨cb, co + l, none⟩ = some (.int .i64 (ix (colS x m) l)) := by
              obtain ⟨_, _, e, hc⟩ := HIC.out l (by rw [EM.out]; exact hl2)
              simp only [Option.some.injEq, Addr.mk.injEq, and_true] at e
              obtain ⟨rfl, rfl⟩ := e
              exact Ext.cell (hRd.out wi (HA.out.upd.trans HT.out.upd)) hc
            obtain ⟨r, hr⟩ : ∃ r, ix (colS x m) l = r := ⟨_, rfl⟩
            rw [hr] at CB FC FH FU er
            clear hr
            have hub := upV_bd CB.1 CB.2 hb2 hb3
            have hdb := dnV_bd CB.1 CB.2 hb2
            have hD := fun w' => (oDown_c r base w' CB.1 (by omega) hb2 hb3)
            have hU := fun w' => (oUp_c r base w' CB.1 (by omega) hb2 hb3)
            obtain ⟨yu, hyu⟩ : ∃ y, upV base r = y := ⟨_, rfl⟩
            obtain ⟨yd, hyd⟩ : ∃ y, dnV base r = y := ⟨_, rfl⟩
            rw [hyu] at FC FH FU hub
            rw [hyd] at FH hdb
            simp only [hyu] at hU
            simp only [hyd] at hD
            have HDr := Lib.hid hD; clear hD
            have HUr := Lib.hid hU; clear hU
            clear hyu hyd
            have wyy : IntKind.i64.wrap (yu - yd) = yu - yd := IntWalk.i64_in _ (by omega)
            have HSU := Lib.hid (show ((upC x m base).take (l + 1)).sum = ((upC x m base).take l).sum + yu by
              rw [take_succ_ix (by rw [upC_length]; exact hl2), FU.out]; simp)
            have hts := hTC.out l
            have wS : IntKind.i64.wrap (((upC x m base).take l).sum - Z + yu) = ((upC x m base).take (l + 1)).sum - Z := by
              rw [IntWalk.i64_in _ (by omega), HSU.out]; omega
            have hl1 : l ≤ m := by omega
            go_wp2_with (at_builtin; go_loud (refine appZ _ rfl _ _ 22 rfl wo.heap.size (.int .i64 0) 8 Try.underlying22 info_int rfl _ l _ rfl (HT.out.ra.ext ((Ext.refl wi).alloc (.cells #[.int .i64 0] 3))) (HTL1.out l hl1) wi.heap.size 1 3 0 rfl (Box.new _ _ _ rfl) (by omega) (by omega) (by simp; omega) ?_))
            intro g cp w3 hr3 hgrow hat hlt3
            have T3 := (HT.out.ext' ((Ext.refl wi).alloc (.cells #[.int .i64 0] 3))).addA hgrow (hat.imp id (fun e => e.trans (by simp))) hr3
            rw [← HSL.out l (by omega)] at T3
            have HT3 := Lib.hid T3; clear T3 hgrow hat hr3 er
            have hs3 := HT3.out.upd.size
            go_wp2_with fail
            refine (HUr.out _).mono ?_
            rintro e w4 ⟨rfl, rfl⟩
            go_wp2_with fail
            refine (HDr.out _).mono ?_
            rintro e w4 ⟨rfl, rfl⟩
            go_wp2_with (at_builtin; go_loud (refine appZ _ rfl _ _ 22 rfl wo.heap.size (.int .i64 0) 8 Try.underlying22 info_int rfl _ l _ rfl (HT3.out.rb'.ext ((Ext.refl w3).alloc (.cells #[.int .i64 (yu - yd)] 3))) (HTL2.out l hl1) w3.heap.size 1 3 (yu - yd) rfl (Box.new _ _ _ rfl) (by omega) (by omega) (by simp; omega) ?_))
            intro g6 cp6 w6 hr6 hgrow6 hat6 hlt6
            have T6 := (HT3.out.ext' ((Ext.refl w3).alloc (.cells #[.int .i64 (yu - yd)] 3))).addB hgrow6 (hat6.imp id (fun e => e.trans (by simp))) hr6
            rw [← FH.out, ← HSH.out l (by omega)] at T6
            have HT6 := Lib.hid T6; clear T6 hgrow6 hat6 hr6
            have hs6 := HT6.out.upd.size
            have k0 := HT6.out.box.cell 1 (by simp)
            have k1 := Ext.cell ((Ext.refl w6).drew.alloc (.cells #[.int .i64 yu] 3)) k0
            have k2 := Ext.cell ((Ext.refl w6).alloc (.cells #[.int .i64 yu] 3)) k0
            go_upto_region 26 with fail
            go_cut [9] from 123 to 130 (fun s9 wz => s9 = .int .i64 (((upC x m base).take l).sum - Z) ∧ ∃ (c' : Value), Thr wo wz B rv lv hv (.slice (some ⟨g, 0, none⟩) (l + 1) cp) (.slice (some ⟨g6, 0, none⟩) (l + 1) cp6) c' ((rowAt L n).take (l + 1)) ((rowAt H n).take (l + 1)) (C.take (l + 1)))
            case first =>
              -- BEGIN cut r26
              go_region_law (first
                | (refine appZs _ (by rfl) _ _ 22 (by rfl) wo.heap.size (.int .i64 0) 8 Try.underlying22 info_int rfl _ l _ (by rfl) (HT6.out.rc.ext ((Ext.refl w6).drew.alloc (.cells #[.int .i64 yu] 3))) (HTL3.out l hl1) w6.heap.size 1 3 yu (by rfl) (Box.new _ _ _ (by simp)) (by omega) (by omega) (by simp; omega) ?_; intro g7 cp7 w7 hr7 hgrow7 hat7 hlt7
                   have T7 := HT6.out.ext' ((Ext.refl w6).drew.alloc (.cells #[.int .i64 yu] 3))
                   have b7 := T7.box.upd (Upd.of_grown hgrow7) (fun e => by have := (T7.rc.blk e).1; omega)
                   have c7 := b7.cell 1 (by simp)
                   have f7 := b7.free 1
                   clear b7
                   have S7 := T7.addC hgrow7 hat7 hr7
                   rw [← FC.out, ← HSC.out l (by omega)] at S7
                   have HS7 := Lib.hid S7; clear S7 T7 hgrow7 hat7 hr7)
                | (go_simp; go_at_call 67; refine (HUr.out _).mono ?_; rintro e w4 ⟨rfl, rfl⟩))
              all_goals
                go_wp2_with fail
                go_meet
                exact ⟨rfl, _, HS7.out⟩
              -- END cut r26
            case rest =>
              obtain ⟨rfl, c', hA⟩ := hcut
              obtain ⟨wz, rfl⟩ : ∃ wz : World, wz = wc := ⟨_, rfl⟩
              have HT8 := Lib.hid hA; clear hA k0 k1 k2
              go_wp2_with fail
              refine (HUr.out _).mono ?_
              rintro e w4 ⟨rfl, rfl⟩
              go_wp2_with fail
              go_roundw
              case rel => exact ⟨l + 1, _, by omega, rfl, by go_num, HT8.out⟩
              case measure => simp [intOf]; omega
            -- END cut cols
          · have hle : m = l := by omega
            subst hle
            clear hl2 hl
            have HCS := Lib.hid (show ((upC x m base).take m).sum = (upC x m base).sum by rw [List.take_of_length_le (by rw [upC_length]; omega)])
            rw [HCS.out]
            have hUC := upC_sum HM.out HE.out HN.out hb2 hb3
            have FH := Lib.hid (HNO.out.hiNM)
            have FR := Lib.hid (HNO.out.rwN)
            have FC := Lib.hid (HNO.out.clM)
            have hub := upV_bd (base := base) hb0 hb1 hb2 hb3
            have hU := fun w' => (oUp_c V base w' hb0 (by omega) hb2 hb3)
            obtain ⟨YU, hyu⟩ : ∃ y, upV base V = y := ⟨_, rfl⟩
            rw [HV.out, HZ.out, hyu] at FH
            rw [HV.out, HZ.out] at FR FC
            rw [hyu] at hub
            simp only [hyu] at hU
            have HUV := Lib.hid hU; clear hU hyu
            obtain ⟨SC, hSC⟩ : ∃ y, (upC x m base).sum - Z = y := ⟨_, rfl⟩
            obtain ⟨SR, hSR⟩ : ∃ y, (upR x base).sum - Z = y := ⟨_, rfl⟩
            rw [hSC] at FR ⊢
            rw [hSR] at FC ⊢
            clear hSC hSR hUC hUS HCS HUS
            have wyy : IntKind.i64.wrap (YU - Z) = YU - Z := IntWalk.i64_in _ (by omega)
            have em := (hMr.out wi (HA.out.upd.trans HT.out.upd)).cell 3 (by simp)
            go_upto_region 29 with fail
            have hle0 : (rowAt L n).take (m + 1) ≠ [] := fun e => by have := HSL.out m (by omega); rw [e] at this; simp at this
            rw [HAL.out.1] at hle0
            have HNE := Lib.hid hle0; clear hle0
            have k0 := HT.out.box.cell 2 (by simp)
            have k1 := Ext.cell ((Ext.refl wi).drew.alloc (.cells #[.int .i64 0] 3)) k0
            have k2 := Ext.cell ((Ext.refl wi).alloc (.cells #[.int .i64 0] 3)) k0
            go_cut [9] from 137 to 144 (fun s9 wx => s9 = .int .i64 SC ∧ ∃ (lv' : Value) (rl' : List Value) (HL' : Nat), NetB w2 B R L H n (n + 1) n HL' HH wx rv c lv' hv rl' rh ∧ wo.heap.size ≤ wx.heap.size ∧ Fre wo.heap.size wx rv rl' rh (L.take (n + 1)) (H.take n) u8 ((rowAt H n).take m) ∧ Fre wo.heap.size wx rv rl' rh (L.take (n + 1)) (H.take n) c (C.take m) ∧ (∀ k, rb u8 = some k → rb c ≠ some k))
            case first =>
              -- BEGIN cut r29
              go_region_law (first
                | (refine appZs _ (by rfl) _ _ 22 (by rfl) wo.heap.size (.int .i64 0) 8 Try.underlying22 info_int rfl _ m _ (by rfl) (HT.out.ra.ext ((Ext.refl wi).drew.alloc (.cells #[.int .i64 0] 3))) (HTL1.out m (Nat.le_refl _)) wi.heap.size 1 3 0 (by rfl) (Box.new _ _ _ (by simp)) (by omega) (by omega) (by simp; omega) ?_; intro g cp w3 hr3 hgrow hat hlt3
                   have T3 := (HT.out.ext' ((Ext.refl wi).drew.alloc (.cells #[.int .i64 0] 3))).addA hgrow hat hr3
                   rw [← HSL.out m (by omega), HAL.out.1] at T3
                   have HT3 := Lib.hid T3; clear T3
                   have c3 := HT3.out.box.cell 2 (by simp)
                   have c4 := Ext.cell ((Ext.refl w3).alloc (.cells #[.slice (some ⟨g, 0, none⟩) (m + 1) cp] 22)) c3
                   have E4 := (Ext.refl w3).alloc (.cells #[.slice (some ⟨g, 0, none⟩) (m + 1) cp] 22)
                   have A4 := HA.out.cols (HT3.out.ext' E4).upd (HT3.out.ext' E4).box
                   have HA4 := Lib.hid (And.intro A4 E4); clear A4 E4
                   have s4 := (HT3.out.ext' HA4.out.2).upd.size
                   clear hgrow hat hr3)
                | (refine app1s _ (by rfl) _ _ 23 22 (by rfl) (.slice none 0 0) 24 Try.underlying23 info_ints rfl w2.heap.size _ n rl (by rfl) (HA4.out.1.lo.owns HKL.out) w3.heap.size 1 22 (.slice (some ⟨g, 0, none⟩) (m + 1) cp) (by rfl) (Box.new _ _ _ (by simp)) rfl (by omega) (by omega) (Nat.le_trans szo s4) ?_; intro g6 cp6 w6 hown6 hgrow6 hat6 hlt6
                   have b6 := HA4.out.1.box.upd (Upd.of_grown hgrow6) (fun e => by have := (HA4.out.1.lo.blk e).1; omega)
                   have c6 := b6.cell 2 (by simp)
                   have f6 := b6.free 2
                   clear b6
                   have S9 := stage29 HA.out HT3.out HNE.out HLL.out hHL HA4.out.2 hgrow6 hat6 hown6
                   have HS9 := Lib.hid (And.intro S9.1 (And.intro S9.2.1 (And.intro S9.2.2.1 (Nat.le_trans s4 hgrow6.size)))); clear S9
                   clear hgrow6 hat6 hown6))
              all_goals
                go_wp2_with fail
                go_meet
                exact ⟨rfl, _, _, _, HS9.out.1, by simp [World.setCell]; exact HS9.out.2.2.2, HS9.out.2.1, HS9.out.2.2.1, HT.out.dbc⟩
              -- END cut r29
            case rest =>
              obtain ⟨rfl, lv', rl', HL', hA, hsx, hF, hG, hbc⟩ := hcut
              obtain ⟨wx, rfl⟩ : ∃ wx : World, wx = wc := ⟨_, rfl⟩
              have HA1 := Lib.hid hA; clear hA
              have HF1 := Lib.hid hF; clear hF
              have HG1 := Lib.hid hG; clear hG
              have HBC := Lib.hid hbc; clear hbc em k0 k1 k2
              have em := (hMr.out wx HA1.out.upd).cell 3 (by simp)
              have k0 := HA1.out.box.cell 3 (by simp)
              have k1 := Ext.cell ((Ext.refl wx).drew.alloc (.cells #[.int .i64 (YU - Z)] 3)) k0
              have k2 := Ext.cell ((Ext.refl wx).alloc (.cells #[.int .i64 (YU - Z)] 3)) k0
              have HOB := Lib.hid (show HH ≤ wo.heap.size from HA.out.bh)
              have HRB := Lib.hid (show ∀ b, rv.ownBlock = some b → b < wo.heap.size from fun b e => (HA.out.rows.blk e).2)
              have HNH := Lib.hid (show rowAt H n ≠ [] from fun e => by have := HNO.out.hl n (by omega); rw [e] at this; simp at this)
              go_upto_region 30 with fail
              go_cut [9] from 145 to 161 (fun s9 wz => s9 = .int .i64 SC ∧ ∃ (hv' : Value) (rh' : List Value) (HH' : Nat), NetB w2 B R L H n (n + 1) (n + 1) HL' HH' wz rv c lv' hv' rl' rh' ∧ wo.heap.size ≤ wz.heap.size ∧ Fre wo.heap.size wz rv rl' rh' (L.take (n + 1)) (H.take (n + 1)) c (C.take m))
              case first =>
                -- BEGIN cut r30
                go_region_law (first
                  | (refine appZs _ (by rfl) _ _ 22 (by rfl) wo.heap.size (.int .i64 0) 8 Try.underlying22 info_int rfl _ m _ (by rfl) (HF1.out.row.ext ((Ext.refl wx).drew.alloc (.cells #[.int .i64 (YU - Z)] 3))) (HTL2.out m (Nat.le_refl _)) wx.heap.size 1 3 (YU - Z) (by rfl) (Box.new _ _ _ (by simp)) (by omega) (by omega) (by simp; omega) ?_; intro g cp w3 hr3 hgrow hat hlt3
                     have F1 := HF1.out.ext ((Ext.refl wx).drew.alloc (.cells #[.int .i64 (YU - Z)] 3))
                     have G1 := HG1.out.ext ((Ext.refl wx).drew.alloc (.cells #[.int .i64 (YU - Z)] 3))
                     have A3 := (HA1.out.ext' ((Ext.refl wx).drew.alloc (.cells #[.int .i64 (YU - Z)] 3))).keepZ F1.row szo hgrow F1.f1 F1.f2 F1.f3
                     have G3 := G1.grow hgrow HBC.out
                     have D3 : ∀ k, rb (.slice (some ⟨g, 0, none⟩) (m + 1) cp) = some k → rb c ≠ some k := Thr.fresh hat G1.row HBC.out
                     rw [← FH.out, ← HSH.out m (by omega), HAL.out.2.1] at hr3
                     have HA3 := Lib.hid (And.intro A3 (And.intro hr3 (And.intro G3 (And.intro D3 (rb_full hr3 HNH.out))))); clear A3 G3 D3
                     have c3 := HA3.out.1.box.cell 3 (by simp)
                     have c4 := Ext.cell ((Ext.refl w3).alloc (.cells #[.slice (some ⟨g, 0, none⟩) (m + 1) cp] 22)) c3
                     have E4 := (Ext.refl w3).alloc (.cells #[.slice (some ⟨g, 0, none⟩) (m + 1) cp] 22)
                     have HA4 := Lib.hid (And.intro (HA3.out.1.ext' E4) E4); clear E4 hr3
                     have s4 := HA4.out.1.sz
                     have s5 := (G1.grow hgrow HBC.out).row
                     clear s5
                     have s6 := hgrow.size
                     simp at s6
                     clear hgrow hat F1 G1)
                  | (refine app1s _ (by rfl) _ _ 23 22 (by rfl) (.slice none 0 0) 24 Try.underlying23 info_ints rfl w2.heap.size _ n rh (by rfl) (HA4.out.1.hi.owns HKH.out) w3.heap.size 1 22 (.slice (some ⟨g, 0, none⟩) (m + 1) cp) (by rfl) (Box.new _ _ _ (by simp)) rfl (by omega) (by omega) s4 ?_; intro g6 cp6 w6 hown6 hgrow6 hat6 hlt6
                     have b6 := HA4.out.1.box.upd (Upd.of_grown hgrow6) (fun e => by have := (HA4.out.1.hi.blk e).1; omega)
                     have c6 := b6.cell 3 (by simp)
                     have f6 := b6.free 3
                     clear b6
                     have S9 := stage30 HA3.out.1 HA3.out.2.1 HA3.out.2.2.1 HA3.out.2.2.2.1 HHL.out hHH HOB.out HRB.out szo HA4.out.2 hgrow6 hat6 hown6 HA3.out.2.2.2.2
                     have s7 := HA4.out.2.size
                     have HS9 := Lib.hid (And.intro S9 (show wo.heap.size ≤ w6.heap.size by have := hgrow6.size; omega)); clear S9
                     clear hgrow6 hat6 hown6)
                  | (go_simp; go_at_call 67; refine (HUV.out _).mono ?_; rintro e w4 ⟨rfl, rfl⟩)
                  | (go_simp; go_at_call 66; refine (HD.out _).mono ?_; rintro e w4 ⟨rfl, rfl⟩))
                all_goals
                  go_wp2_with fail
                  go_meet
                  exact ⟨rfl, _, _, _, HS9.out.1.1, by simp [World.setCell]; exact HS9.out.2, HS9.out.1.2⟩
                -- END cut r30
              case rest =>
                obtain ⟨rfl, hv', rh', HH', hA, hsz2, hG⟩ := hcut
                obtain ⟨wz, rfl⟩ : ∃ wz : World, wz = wc := ⟨_, rfl⟩
                have HA2 := Lib.hid hA; clear hA em k0 k1 k2
                have HG2 := Lib.hid hG; clear hG
                have k0 := HA2.out.box.cell 0 (by simp)
                have s4 := HA2.out.sz
                have HZ2 := Lib.hid z2; clear z2
                go_wp2_with (at_builtin; go_loud (refine app1 _ rfl _ _ 22 3 rfl (.int .i64 0) 8 Try.underlying22 info_int rfl w2.heap.size _ n _ rfl ((HA2.out.ext' ((Ext.refl wz).alloc (.cells #[.int .i64 SC] 3))).rows.owns HKR.out) wz.heap.size 1 3 (.int .i64 SC) rfl (Box.new _ _ _ rfl) rfl (by omega) (by omega) (by simp; omega) ?_))
                intro g3 cp3 w3 hown3 hgrow hat hlt3
                have A4 := HA2.out.ext' ((Ext.refl wz).alloc (.cells #[.int .i64 SC] 3))
                have G4 := HG2.out.ext ((Ext.refl wz).alloc (.cells #[.int .i64 SC] 3))
                have b3 := A4.rows.box hgrow hlB A4.box
                have c3 := b3.cell 0 (by simp)
                have c3' := b3.cell 1 (by simp)
                have f3 := b3.free 0
                have S5 := stage31 A4 G4 HRL.out szo hgrow (hat.imp id (fun e => e.trans (by simp))) (by rw [FR.out]; first | exact hown3 | (rw [List.map_take]; exact hown3))
                have s3 := hgrow.size
                simp at s3
                clear A4 G4 b3 hgrow hat hown3 k0
                have k1 := S5.1.box.cell 1 (by simp)
                have HS5 := Lib.hid S5; clear S5
                go_wp2_with (at_builtin; go_loud (refine appZ _ rfl _ _ 22 rfl wo.heap.size (.int .i64 0) 8 Try.underlying22 info_int rfl _ m _ rfl (HS5.out.2.row.ext ((Ext.refl _).alloc (.cells #[.int .i64 SR] 3))) (HTL3.out m (Nat.le_refl _)) w3.heap.size 1 3 SR rfl (Box.new _ _ _ (by simp [World.setCell])) (by omega) (by omega) (by simp [World.setCell]; omega) ?_))
                intro g7 cp7 w7 hr7 hgrow7 hat7 hlt7
                obtain ⟨la, lc, rfl, q1, q2, q3⟩ := HA2.out.lo.ownG (Nat.le_refl _) HA2.out.bl
                clear q1 q2 q3
                obtain ⟨ha, hc, rfl, q1, q2, q3⟩ := HA2.out.hi.ownG (Nat.le_refl _) HA2.out.bh
                clear q1 q2 q3
                have eLL : (L.take (n + 1)).length = L.length := by rw [HAL.out.2.2.2.1]
                have eHL : (H.take (n + 1)).length = H.length := by rw [HAL.out.2.2.2.2.1]
                rw [eLL, eHL] at HS5
                clear eLL eHL
                clear c3 c3' f3 k1
                have A7 := (HS5.out.1.ext' ((Ext.refl _).alloc (.cells #[.int .i64 SR] 3))).keepZ (HS5.out.2.ext ((Ext.refl _).alloc (.cells #[.int .i64 SR] 3))).row szo hgrow7 HS5.out.2.f1 HS5.out.2.f2 HS5.out.2.f3
                rw [← FC.out, ← HSC.out m (by omega), HAL.out.2.2.1] at hr7
                have s7 := hgrow7.size
                simp [World.setCell] at s7
                have A8 := A7.cols ((Upd.refl w7).setCell (a := ⟨B, 1, none⟩) (.slice (some ⟨g7, 0, none⟩) (m + 1) cp7) (fun _ => rfl)) (A7.box.set 1 (.slice (some ⟨g7, 0, none⟩) (m + 1) cp7))
                have k0 := A7.box.cell 0 (by simp)
                have k1 := A7.box.cell 1 (by simp)
                have k2 := A7.box.cell 2 (by simp)
                have k3 := A7.box.cell 3 (by simp)
                have f7 := A7.box.free 1
                have hwB : w.heap.size < B := by omega
                have br := HB0.out.ext (U1.out.1.trans (hRd.out w7 A7.upd))
                have ex8 := (U1.out.2.trans (hRd.out w7 A7.upd)).setCell (a := ⟨B, 1, none⟩) (.slice (some ⟨g7, 0, none⟩) (m + 1) cp7) (Nat.le_of_lt hwB)
                have f0 := br.free 0
                have f1 := br.free 1
                have f2 := br.free 2
                have f3 := br.free 3
                have q0 := br.cell 0 (by simp)
                have q1 := br.cell 1 (by simp)
                have q2 := br.cell 2 (by simp)
                have q3 := br.cell 3 (by simp)
                have h0 := A8.rows
                have h2 := A8.lo
                have h3 := A8.hi
                rw [HAL.out.2.2.2.2.2] at h0
                rw [HAL.out.2.2.2.1] at h2
                rw [HAL.out.2.2.2.2.1] at h3
                have sz8 : (w7.setCell ⟨B, 1, none⟩ (.slice (some ⟨g7, 0, none⟩) (m + 1) cp7)).heap.size = w7.heap.size := by simp [World.setCell]
                have hw2 : w.heap.size < w2.heap.size := Nat.lt_trans hwB (by have := HZ2.out; omega)
                have P0 := (h0.own (Nat.le_refl _)).put4 (B := w.heap.size) hw2 (.slice (some ⟨g3, 0, none⟩) (n + 1) cp3) (.slice (some ⟨g7, 0, none⟩) (m + 1) cp7) (.slice la L.length lc) (.slice ha H.length hc)
                have P1 := ((hr7.put (a := ⟨B, 1, none⟩) (by simp only; omega) (.slice (some ⟨g7, 0, none⟩) (m + 1) cp7)).own (Nat.le_refl _)).put4 (B := w.heap.size) (by omega) (.slice (some ⟨g3, 0, none⟩) (n + 1) cp3) (.slice (some ⟨g7, 0, none⟩) (m + 1) cp7) (.slice la L.length lc) (.slice ha H.length hc)
                have P2 := (h2.ownG (Nat.le_refl _) A8.bl).put4 (B := w.heap.size) hw2 (.slice (some ⟨g3, 0, none⟩) (n + 1) cp3) (.slice (some ⟨g7, 0, none⟩) (m + 1) cp7) (.slice la L.length lc) (.slice ha H.length hc)
                have P3 := (h3.ownG (Nat.le_refl _) A8.bh).put4 (B := w.heap.size) hw2 (.slice (some ⟨g3, 0, none⟩) (n + 1) cp3) (.slice (some ⟨g7, 0, none⟩) (m + 1) cp7) (.slice la L.length lc) (.slice ha H.length hc)
                have EX := ex8.put4 (B := w.heap.size) (Nat.le_refl _) (.slice (some ⟨g3, 0, none⟩) (n + 1) cp3) (.slice (some ⟨g7, 0, none⟩) (m + 1) cp7) (.slice la L.length lc) (.slice ha H.length hc)
                have hs := put4_size (w7.setCell ⟨B, 1, none⟩ (.slice (some ⟨g7, 0, none⟩) (m + 1) cp7)) w.heap.size (.slice (some ⟨g3, 0, none⟩) (n + 1) cp3) (.slice (some ⟨g7, 0, none⟩) (m + 1) cp7) (.slice la L.length lc) (.slice ha H.length hc)
                have HP := Lib.hid (And.intro (P0.mono (lo' := w.heap.size) (Nat.le_of_lt hw2) (Nat.le_of_eq hs.symm)) (And.intro (P1.mono (lo' := w.heap.size) (by omega) (Nat.le_of_eq hs.symm)) (And.intro (P2.mono (Nat.le_of_lt hw2) (Nat.le_of_eq hs.symm)) (And.intro (P3.mono (Nat.le_of_lt hw2) (Nat.le_of_eq hs.symm)) EX)))); clear P0 P1 P2 P3 EX hs sz8 h0 h2 h3 A7 A8 hgrow7 hat7 hr7 ex8 br
                go_wp2
                refine bodyPost_ret (v := .agg #[.slice (some ⟨g3, 0, none⟩) (n + 1) cp3, .slice (some ⟨g7, 0, none⟩) (m + 1) cp7, (.slice la L.length lc), (.slice ha H.length hc)]) (by simp [results, Try.results39, go_sem, q0, q1, q2, q3]) rfl ⟨_, rfl, ⟨_, _, _, _, _, _, rfl, HP.out.1, HP.out.2.1, HP.out.2.2.1, HP.out.2.2.2.1⟩, HP.out.2.2.2.2⟩
end Go.Proofs.Ytjpomfdmgaambaa
