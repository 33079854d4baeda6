/- JoinPatterns, the spec's and the program's. -/
import Derived.Test.YtmffhipfodlomaaPub
namespace Go.Proofs.Ytmffhipfodlomaa
open Go.RowKit
theorem joinB_el {a b : List (List Int)} (h : joinB a b = true) {k l : Nat} (hk : k < a.length) (hl : l < (rowAt a k).length) :
    (ix (rowAt a k) l = 0 ∨ ix (rowAt a k) l = 1) ∧ (ix (rowAt b k) l = 0 ∨ ix (rowAt b k) l = 1) := by
  have s := joinB_shape h
  have h1 := gridB_elem s.1 hk hl
  have h2 := gridB_elem s.2.1 (k := k) (j := l) (by omega) (by have := s.2.2.2.2.2 k hk; omega)
  omega
set_option maxHeartbeats 3200000 in
theorem joinPatterns_c (v1 : Value) (x : List (List Int)) (v2 : Value) (p : List (List Int)) (w : World) (h1 : Grid w v1 x) (h2 : Grid w v2 p) (hq : joinB x p = true) :
    Calls Try.prog 68 #[v1, v2] w (RetGrid (fun v' => v') w (mapG (joinEl p) x)) := by
  have H1 := Lib.hid h1; clear h1
  have sh := joinB_shape hq
  have hl8 : x.length ≤ 8 := sh.2.2.2.1
  have HSH : Hid (p.length = x.length ∧ ∀ k, k < x.length → (rowAt x k).length ≤ 8 ∧ 1 ≤ (rowAt x k).length ∧ (rowAt p k).length = (rowAt x k).length) := Lib.hid ⟨sh.2.2.1, sh.2.2.2.2.2⟩
  clear sh
  have HQ := Lib.hid hq; clear hq
  obtain ⟨ap, cpp, rfl, e1, e2, e3⟩ := h2
  have GP := Lib.hid e3; clear e3
  go_enter Try.func68, Try.ntmps68
  go_wp2_with fail
  refine (copyMatrix_c _ x w H1.out (by omega) (fun k hk => by have := HSH.out.2 k hk; omega) (fun k hk e => by have := HSH.out.2 k hk; rw [e] at this; simp at this)).mono ?_
  rintro e w1 ⟨v', rvs, rfl, og, WX⟩
  obtain ⟨ao, cap, rfl, q1, q2, q3⟩ := og
  have GA := Lib.hid q3; clear q3
  go_wp2
  go_loopw [14] (fun i wr => ∃ (k : Nat) (zs : List (List Int)), k ≤ p.length ∧ i = .int .i64 k ∧ OwnGA w.heap.size w1.heap.size wr ao rvs zs ∧ Mix (joinEl p) x zs k 0 ∧ w1.heap.size ≤ wr.heap.size ∧ Ext w wr) (fun i _ => p.length - (intOf i).toNat)
  case atStart => exact ⟨0, x, Nat.zero_le _, rfl, GA.out, Mix.start, Nat.le_refl _, WX⟩
  case round =>
    obtain ⟨k, zs, hk, rfl, hg, hm, hsz, hx⟩ := hrel
    have HM := Lib.hid hm; clear hm
    have HG := Lib.hid hg; clear hg
    by_cases hlt : k < p.length
    · have hltx : k < x.length := by have := HSH.out.1; omega
      have hz : k < zs.length := by rw [HM.out.len]; exact hltx
      obtain ⟨b, o, rfl, lb, lb2, lb3, hc, hf⟩ := HG.out.at_ hz
      obtain ⟨ar, cr, ev, r1, r2⟩ := HG.out.rowForm hz
      rw [HM.out.row k hltx] at ev r1
      rw [ev] at hc
      have EV := Lib.hid ev; clear ev
      have sh := HSH.out.2 k hltx
      have HSK := Lib.hid sh; clear sh
      obtain ⟨bp, op, ap2, cp2, rfl, hcp0, p1, p2, p3⟩ := GP.out.at_ hlt
      have hcp := Ext.cell hx hcp0
      have P3 := Lib.hid p3; clear p3

      go_wp2
      go_loopw [21] (fun i wr' => ∃ (l : Nat) (zs' : List (List Int)), l ≤ (rowAt p k).length ∧ i = .int .i64 l ∧ OwnGA w.heap.size w1.heap.size wr' (some ⟨b, o, none⟩) rvs zs' ∧ Mix (joinEl p) x zs' k l ∧ w1.heap.size ≤ wr'.heap.size ∧ Ext w wr') (fun i _ => (rowAt p k).length - (intOf i).toNat)
      case atStart => exact ⟨0, zs, Nat.zero_le _, rfl, HG.out, HM.out, hsz, hx⟩
      case round =>
        obtain ⟨l, zs', hl, rfl, hg', hm', hsz', hx'⟩ := hrel
        obtain ⟨wi, rfl⟩ : ∃ wi : World, wi = wr := ⟨_, rfl⟩
        have HM' := Lib.hid hm'; clear hm'
        have HG' := Lib.hid hg'; clear hg'
        by_cases hl2 : l < (rowAt p k).length
        · have hl2x : l < (rowAt x k).length := by have := HSK.out.2.2; omega
          have hz' : k < zs'.length := by rw [HM'.out.len]; exact hltx
          have hrl : l < (rowAt zs' k).length := by rw [HM'.out.row k hltx]; exact hl2x
          obtain ⟨b2, o2, rfl, l1, l2, l3, hc2, hf2, st⟩ := HG'.out.store hz' hrl EV.out
          rw [HM'.out.at_ hltx hl2x] at hc2
          have ST := Lib.hid st; clear st
          obtain ⟨bq, oq, rfl, hcq0⟩ := P3.out l hl2
          have hcq := Ext.cell hx' hcq0
          obtain ⟨b3, o3, e3, _, _, _, hc3, _⟩ := HG'.out.at_ hz'
          obtain ⟨rfl, rfl⟩ : b = b3 ∧ o = o3 := by simpa using e3
          rw [EV.out] at hc3
          obtain ⟨d1, d2⟩ := joinB_el HQ.out hltx hl2x
          obtain ⟨A, hA⟩ : ∃ A, ix (rowAt x k) l = A := ⟨_, rfl⟩
          obtain ⟨B, hB⟩ : ∃ B, ix (rowAt p k) l = B := ⟨_, rfl⟩
          rw [hA] at d1 hc2
          rw [hB] at d2 hcq hcq0
          have hJ : joinEl p k l (ix (rowAt x k) l) = imax A B := by simp only [joinEl, hA, hB]
          have HJ := Lib.hid hJ; clear hJ hA hB
          rcases d1 with rfl | rfl <;> rcases d2 with rfl | rfl
          · go_wp2
            go_roundw
            case rel => exact ⟨l + 1, _, by omega, by go_num, ST.out 0, HM'.out.step hltx hl2x (by rw [HJ.out]; rfl), by simp [World.setCell]; exact hsz', hx'.setCell _ (by simp; omega)⟩
            case measure => simp [intOf]; omega
          · go_wp2
            go_roundw
            case rel => exact ⟨l + 1, _, by omega, by go_num, ST.out 1, HM'.out.step hltx hl2x (by rw [HJ.out]; rfl), by simp [World.setCell]; exact hsz', hx'.setCell _ (by simp; omega)⟩
            case measure => simp [intOf]; omega
          · go_wp2
            go_roundw
            case rel => exact ⟨l + 1, _, by omega, by go_num, ST.out 1, HM'.out.step hltx hl2x (by rw [HJ.out]; rfl), by simp [World.setCell]; exact hsz', hx'.setCell _ (by simp; omega)⟩
            case measure => simp [intOf]; omega
          · go_wp2
            go_roundw
            case rel => exact ⟨l + 1, _, by omega, by go_num, ST.out 1, HM'.out.step hltx hl2x (by rw [HJ.out]; rfl), by simp [World.setCell]; exact hsz', hx'.setCell _ (by simp; omega)⟩
            case measure => simp [intOf]; omega
        · go_wp2
          go_roundw
          case rel => exact ⟨k + 1, zs', by omega, by go_num, HG'.out, HM'.out.next (by have := HSK.out; omega), hsz', hx'⟩
          case measure => simp [intOf]; omega
    · have hkk := HM.out.done (by have := HSH.out.1; omega)
      subst hkk
      go_wp2
      go_ret
      exact ⟨_, rvs, rfl, ⟨ao, cap, by rw [mapG_length]; rfl, by rw [mapG_length]; exact q1, q2, HG.out.mono (Nat.le_refl _) hsz⟩, hx⟩

theorem joinB_shapeB {a b : List (List Int)} (ha : gridB 8 1 a = true) (hb : gridB 8 1 b = true) : joinB a b = shapeB (a.length : Int) ((rowAt a 0).length : Int) b := by
  rw [joinB, ha, Bool.true_and]; exact patB_shape hb
set_option maxHeartbeats 1600000 in
theorem implJoin_c (v1 : Value) (x : List (List Int)) (v2 : Value) (p : List (List Int)) (w : World) (h1 : Grid w v1 x) (h2 : Grid w v2 p) :
    Calls Try.prog 29 #[v1, v2] w (RetGrid (fun v' => .tuple #[v', .bool (joinB x p)]) w (joinV x p)) := by
  have H1 := Lib.hid h1
  have H2 := Lib.hid h2; clear h2
  obtain ⟨a1, c1, rfl, e1, e2, g1⟩ := h1
  have G1 := Lib.hid g1; clear g1
  cases hx : gridB 8 1 x
  · have hB : joinB x p = false := by simp [joinB, hx]
    have hV : joinV x p = [] := by simp [joinV, hB]
    rw [hV, hB]; clear hV hB
    have HX := Lib.hid hx; clear hx
    go_enter Try.func29, Try.ntmps29
    go_wp2_with fail
    refine (isGrid_b false _ x 1 _ HX.out H1.out).mono ?_
    rintro e w' ⟨rfl, rfl⟩
    go_wp2
    go_ret2
    exact ⟨_, [], rfl, OwnG.nil, Ext.refl _⟩
  cases hp : gridB 8 1 p
  · have hB : joinB x p = false := by simp [joinB, patB, hp]
    have hV : joinV x p = [] := by simp [joinV, hB]
    rw [hV, hB]; clear hV hB
    have HX := Lib.hid hx; clear hx
    have HP := Lib.hid hp; clear hp
    go_enter Try.func29, Try.ntmps29
    go_wp2_with fail
    refine (isGrid_b true _ x 1 _ HX.out H1.out).mono ?_
    rintro e w' ⟨rfl, rfl⟩
    go_wp2_with fail
    refine (isGrid_b false _ p 1 _ HP.out H2.out).mono ?_
    rintro e w' ⟨rfl, rfl⟩
    go_wp2
    go_ret2
    exact ⟨_, [], rfl, OwnG.nil, Ext.refl _⟩
  have hS := joinB_shapeB hx hp
  have hxx := gridB_true.1 hx
  obtain ⟨hx1, _, _, _, hxr⟩ := hxx; clear hxr
  obtain ⟨b1, o1, ar1, cr1, rfl, hc1, p1, p2, p3⟩ := G1.out.at0 (by omega)
  clear p3
  have HX := Lib.hid hx; clear hx
  have HP := Lib.hid hp; clear hp
  cases hB : joinB x p
  · have hV : joinV x p = [] := by simp [joinV, hB]
    rw [hV]; clear hV
    have hS' := hS.symm.trans hB
    have HS := Lib.hid hS'; clear hS' hS
    have HB := Lib.hid hB; clear hB
    go_enter Try.func29, Try.ntmps29
    go_wp2_with fail
    refine (isGrid_b true _ x 1 _ HX.out H1.out).mono ?_
    rintro e w' ⟨rfl, rfl⟩
    go_wp2_with fail
    refine (isGrid_b true _ p 1 _ HP.out H2.out).mono ?_
    rintro e w' ⟨rfl, rfl⟩
    go_wp2_with fail
    refine (hasShape_b false _ p _ _ _ HS.out H2.out).mono ?_
    rintro e w' ⟨rfl, rfl⟩
    go_wp2
    go_ret2
    exact ⟨_, [], rfl, OwnG.nil, Ext.refl _⟩
  · have hV : joinV x p = mapG (joinEl p) x := by simp [joinV, hB, join]
    rw [hV]; clear hV
    have hS' := hS.symm.trans hB
    have HS := Lib.hid hS'; clear hS' hS
    have HB := Lib.hid hB; clear hB
    go_enter Try.func29, Try.ntmps29
    go_wp2_with fail
    refine (isGrid_b true _ x 1 _ HX.out H1.out).mono ?_
    rintro e w' ⟨rfl, rfl⟩
    go_wp2_with fail
    refine (isGrid_b true _ p 1 _ HP.out H2.out).mono ?_
    rintro e w' ⟨rfl, rfl⟩
    go_wp2_with fail
    refine (hasShape_b true _ p _ _ _ HS.out H2.out).mono ?_
    rintro e w' ⟨rfl, rfl⟩
    go_wp2_with fail
    refine (joinPatterns_c _ x _ p _ H1.out H2.out HB.out).mono ?_
    rintro e w' ⟨v', rvs, rfl, og, ug⟩
    go_wp2
    go_ret2
    exact ⟨_, rvs, rfl, og, ug⟩


set_option maxHeartbeats 3200000 in
theorem specJoin_c (v1 : Value) (x : List (List Int)) (v2 : Value) (p : List (List Int)) (w0 : World) (h1 : Grid w0 v1 x) (h2 : Grid w0 v2 p) :
    Calls Try.prog 28 #[v1, v2] w0 (RetGrid (fun v' => .tuple #[v', .bool (joinB x p)]) w0 (joinV x p)) := by
  have H1 := Lib.hid h1
  have H2 := Lib.hid h2
  obtain ⟨ax, cx, rfl, d1, d2, d3⟩ := h1
  obtain ⟨ap, cpp, rfl, e1, e2, e3⟩ := h2
  have G0 := Lib.hid d3; clear d3
  have GP0 := Lib.hid e3; clear e3
  cases hx : gridB 8 1 x
  · have hB : joinB x p = false := by simp [joinB, hx]
    have hV : joinV x p = [] := by simp [joinV, hB]
    rw [hV, hB]; clear hV hB
    have HX := Lib.hid hx; clear hx
    go_enter Try.func28, Try.ntmps28
    go_wp2_with fail
    go_quiet ((go_at_call 66; exact Calls.quiet_of_same (qForm_b false _ x 1 _ HX.out H1.out)))
    go_wp2
    go_ret2
    exact ⟨_, [], rfl, OwnG.nil, (Drew.refl _).ext.drewN _⟩
  cases hp : gridB 8 1 p
  · have hB : joinB x p = false := by simp [joinB, patB, hp]
    have hV : joinV x p = [] := by simp [joinV, hB]
    rw [hV, hB]; clear hV hB
    have HX := Lib.hid hx; clear hx
    have HP := Lib.hid hp; clear hp
    go_enter Try.func28, Try.ntmps28
    go_wp2_with fail
    go_quiet ((go_at_call 66; first | exact Calls.quiet_of_same (qForm_b true _ x 1 _ HX.out H1.out) | exact Calls.quiet_of_same (qForm_b false _ p 1 _ HP.out H2.out)))
    go_wp2
    go_ret2
    exact ⟨_, [], rfl, OwnG.nil, (Drew.refl _).ext.drewN _⟩
  have hxx := gridB_true.1 hx
  have hpp := gridB_true.1 hp
  obtain ⟨b1, o1, ar1, cr1, e5, hc1, p1, p2, p3⟩ := G0.out.at0 (by omega)
  obtain ⟨b2, o2, ar2, cr2, e6, hc2, q1, q2, q3⟩ := GP0.out.at0 (by omega)
  subst e5; subst e6
  clear p3 q3
  have x0 : (0 : Int) < (x.length : Int) := by omega
  have y0 : (0 : Int) < (p.length : Int) := by omega
  obtain ⟨_, _, _, _, hxr⟩ := hxx; clear hxr
  obtain ⟨_, _, _, _, hpr⟩ := hpp; clear hpr
  have HX := Lib.hid hx; clear hx
  have HP := Lib.hid hp; clear hp
  cases hB : joinB x p
  · have hV : joinV x p = [] := by simp [joinV, hB]
    rw [hV]; clear hV
    have hn : ¬ (p.length = x.length ∧ (rowAt p 0).length = (rowAt x 0).length) := by
      intro hh
      simp [joinB, patB, HX.out, HP.out, hh] at hB
    clear hB
    by_cases hl : p.length = x.length
    · have hd : ((x.length : Int) != (p.length : Int)) = false := by simp; omega
      have hd2 : (((rowAt x 0).length : Int) != ((rowAt p 0).length : Int)) = true := by simp; omega
      have HL := Lib.hid hl; clear hl
      clear hn
      go_enter Try.func28, Try.ntmps28
      go_wp2_with fail
      go_quiet ((go_at_call 66; first | exact Calls.quiet_of_same (qForm_b true _ x 1 _ HX.out H1.out) | exact Calls.quiet_of_same (qForm_b true _ p 1 _ HP.out H2.out)))
      go_wp2
      go_ret2
      exact ⟨_, [], rfl, OwnG.nil, (Drew.refl _).ext.drewN _⟩
    · have hd : ((x.length : Int) != (p.length : Int)) = true := by simp; omega
      have HL := Lib.hid hl; clear hl
      clear hn
      go_enter Try.func28, Try.ntmps28
      go_wp2_with fail
      go_quiet ((go_at_call 66; first | exact Calls.quiet_of_same (qForm_b true _ x 1 _ HX.out H1.out) | exact Calls.quiet_of_same (qForm_b true _ p 1 _ HP.out H2.out)))
      go_wp2
      go_ret2
      exact ⟨_, [], rfl, OwnG.nil, (Drew.refl _).ext.drewN _⟩
  have hV : joinV x p = mapG (joinEl p) x := by simp [joinV, hB, join]
  rw [hV]; clear hV
  have sh := joinB_shape hB
  have hd : ((x.length : Int) != (p.length : Int)) = false := by have := sh.2.2.1; simp; omega
  have hd2 : (((rowAt x 0).length : Int) != ((rowAt p 0).length : Int)) = false := by have := sh.2.2.2.2.2 0 (by omega); simp; omega
  have hl8 : x.length ≤ 8 := sh.2.2.2.1
  have HL : Hid (p.length = x.length) := Lib.hid sh.2.2.1
  have HSH : Hid (∀ k, k < x.length → (rowAt x k).length ≤ 8 ∧ 1 ≤ (rowAt x k).length ∧ (rowAt p k).length = (rowAt x k).length) := Lib.hid sh.2.2.2.2.2
  clear sh
  have HB := Lib.hid hB; clear hB
  go_enter Try.func28, Try.ntmps28
  go_wp2_with fail
  go_quiet ((go_at_call 66; first | exact Calls.quiet_of_same (qForm_b true _ x 1 _ HX.out H1.out) | exact Calls.quiet_of_same (qForm_b true _ p 1 _ HP.out H2.out)))
  obtain ⟨w, hw⟩ : ∃ w, w = w0.drewN nq := ⟨_, rfl⟩
  have WX : Ext w0 w := by rw [hw]; exact (Ext.refl w0).drewN nq
  rw [← hw]
  clear hw hc1 hc2
  have hs0 := WX.size
  have G := Lib.hid (G0.out.ext WX)
  have GP := Lib.hid (GP0.out.ext WX)
  go_wp2
  go_loopw [6, 40] (fun r i wr => ∃ (k : Nat) (rvs : List Value), k ≤ x.length ∧ i = .int .i64 k ∧ GRow w.heap.size wr.heap.size wr r rvs ((mapG (joinEl p) x).take k) ∧ Ext w wr) (fun _ i _ => x.length - (intOf i).toNat)
  case atStart => exact ⟨0, [], Nat.zero_le _, rfl, GRow.nil, Ext.refl w⟩
  case round =>
    obtain ⟨k, rvs, hk, rfl, hg, hx⟩ := hrel
    obtain ⟨wo, rfl⟩ : ∃ wo : World, wo = wr := ⟨_, rfl⟩
    have HG := Lib.hid hg; clear hg
    by_cases hlt : k < x.length
    · obtain ⟨b, o, ar, cr, e9, hc, r1, r2, r3⟩ := (G.out.ext hx).at_ hlt
      obtain ⟨rfl, rfl⟩ : b1 = b ∧ o1 = o := by simpa using e9
      have R3 := Lib.hid r3; clear r3
      have hs := hx.size
      have hr8 := HSH.out k hlt
      have hltp : k < p.length := by have := HL.out; omega
      have HRK : Hid ((rowAt p k).length = (rowAt x k).length) := Lib.hid hr8.2.2
      obtain ⟨hr8, _, hrx⟩ := hr8
      clear hrx
      obtain ⟨bp, op, ap2, cp2, e8, hcp0, p1, p2, p3⟩ := (GP.out.ext hx).at_ hltp
      obtain ⟨rfl, rfl⟩ : b2 = bp ∧ o2 = op := by simpa using e8
      have P3 := Lib.hid p3; clear p3
      go_wp2
      go_loopw [9, 47] (fun r i wr => ∃ l : Nat, l ≤ (rowAt x k).length ∧ i = .int .i64 l ∧ IRow wo.heap.size wr r ((rowF (joinEl p) x k).take l) ∧ Ext wo wr) (fun _ i _ => (rowAt x k).length - (intOf i).toNat)
      case atStart => exact ⟨0, Nat.zero_le _, rfl, by simpa using IRow.nil, Ext.refl wo⟩
      case round =>
        obtain ⟨l, hl, rfl, hp, hxi⟩ := hrel
        obtain ⟨wi, rfl⟩ : ∃ wi : World, wi = wr := ⟨_, rfl⟩
        have hsi := hxi.size
        have HP := Lib.hid hp
        by_cases hl2 : l < (rowAt x k).length
        · obtain ⟨bx, ox, rfl, hcx⟩ := R3.out l hl2
          have ecx := Ext.cell hxi hcx
          have htl : ((rowF (joinEl p) x k).take l).length = l := by simp [rowF_length]; omega
          have hown := hp
          unfold IRow at hown
          rw [htl] at hown
          have HOWN := Lib.hid hown; clear hown hp
          have HTL := Lib.hid htl; clear htl
          have hl2p : l < (rowAt p k).length := by have := HRK.out; omega
          obtain ⟨bq, oq, rfl, hcq0⟩ := P3.out l hl2p
          have hcq := Ext.cell hxi hcq0
          have hcp := Ext.cell hxi hcp0
          have HEL : Hid (joinEl p k l (ix (rowAt x k) l) = imax (ix (rowAt x k) l) (ix (rowAt p k) l)) := Lib.hid rfl
          go_wp2_with fail
          refine (l1Most_c (ix (rowAt x k) l) (ix (rowAt p k) l) _).mono ?_
          rintro e wi ⟨rfl, rfl⟩
          go_wp2_with (at_builtin; go_loud (refine app1 _ rfl _ _ 22 3 rfl (.int .i64 0) 8 Try.underlying22 info_int rfl wo.heap.size _ l _ rfl (HOWN.out.kept (row := none) ⟨((Ext.refl _).alloc _).os, ((Ext.refl _).alloc _).tape, ((Ext.refl _).alloc _).output, ((Ext.refl _).alloc _).size, fun k hk _ => ((Ext.refl _).alloc _).block hk⟩ (by cases (Value.ownBlock _) <;> simp)) wi.heap.size 1 3 (.int .i64 (imax (ix (rowAt x k) l) (ix (rowAt p k) l))) rfl (Box.new _ _ _ rfl) rfl (by omega) (by omega) (by simp; omega) ?_))
          intro g cp w3 hown3 hgrow hat hlt3
          have h3 := HP.out.ext ((Ext.refl _).alloc (.cells #[.int .i64 (imax (ix (rowAt x k) l) (ix (rowAt p k) l))] 3))
          have hx3 := h3.grew (hxi.alloc _) (by omega) hgrow
          have HO3 := Lib.hid hown3; clear hown3
          have HX3 := Lib.hid hx3; clear hx3
          clear hgrow
          go_wp2
          go_roundw
          case rel => exact ⟨l + 1, by omega, by go_num, by
            rw [rowF_take_succ hl2, HEL.out]
            exact IRow.push (by rw [HTL.out, List.map_take]; exact HO3.out), HX3.out⟩
          case measure => simp [intOf]; omega
        · have hfull : (rowF (joinEl p) x k).take l = rowF (joinEl p) x k := List.take_of_length_le (by rw [rowF_length]; omega)
          rw [hfull] at hp
          clear HP hfull
          have O1 := Lib.hid (hp.own (Nat.le_refl _))
          obtain ⟨ap, cp0, rfl⟩ := hp.form
          clear hp
          have htk : ((mapG (joinEl p) x).take k).length = k := by simp [mapG_length]; omega
          have HTK := Lib.hid htk; clear htk
          have G1 := Lib.hid (HG.out.ext hxi)
          have hown := (G1.out.ext ((Ext.refl wi).alloc (.cells #[.slice ap (rowF (joinEl p) x k).length cp0] 22))).own
          rw [HTK.out] at hown
          have HOWN := Lib.hid hown; clear hown
          go_wp2_with (at_builtin; go_loud (refine app1 _ rfl _ _ 23 22 rfl (.slice none 0 0) 24 Try.underlying23 info_ints rfl w.heap.size _ k rvs rfl HOWN.out wi.heap.size 1 22 (.slice ap (rowF (joinEl p) x k).length cp0) rfl (Box.new _ _ _ rfl) rfl (by omega) (by omega) (by simp; omega) ?_))
          intro g cp w3 hown3 hgrow hat hlt3
          have e1 : Ext wi (wi.alloc (.cells #[.slice ap (rowF (joinEl p) x k).length cp0] 22)) := (Ext.refl wi).alloc _
          have gn := (G1.out.ext e1).push (hi' := w3.heap.size) (r := rowF (joinEl p) x k) hx.size
            ((O1.out.ext e1).mono (Nat.le_refl _) (by have := hgrow.size; simp at this; omega)) (by have := hgrow.size; simp at this; omega) hgrow (by rw [HTK.out]; exact hown3)
          have hx3 := (G1.out.ext e1).grew ((hx.trans hxi).trans e1) (Nat.le_refl _) hgrow
          have GN := Lib.hid gn; clear gn
          have HX3 := Lib.hid hx3; clear hx3
          clear hgrow hown3
          go_wp2
          go_roundw
          case rel => exact ⟨k + 1, _, by omega, by go_num, by rw [mapG_take_succ hlt]; exact GN.out, HX3.out⟩
          case measure => simp [intOf]; omega
    · have hkk : (mapG (joinEl p) x).take k = mapG (joinEl p) x := List.take_of_length_le (by rw [mapG_length]; omega)
      rw [hkk] at HG
      go_wp2
      go_ret2
      exact ⟨_, rvs, rfl, (HG.out.ownG (Nat.le_refl _) (Nat.le_refl _)).mono WX.size (Nat.le_refl _), WX.trans hx⟩
end Go.Proofs.Ytmffhipfodlomaa
