/- The matrices of the least and the greatest values, the spec's and the program's: AllRanges. -/
import Derived.Test.YthdfiebacomilaaAllR0
import Derived.Test.YthdfiebacomilaaSrange
import Derived.Test.YthdfiebacomilaaAny
namespace Go.Proofs.Ythdfiebacomilaa
open Go.RowKit
open Fm

theorem mapG_same {f : Nat → Nat → Int → Int} {n m : Nat} {X Y : List (List Int)} (hX : Rc n m X) (hY : Rc n m Y) (hf : ∀ i j x y, f i j x = f i j y) : mapG f X = mapG f Y := by
  refine list_ext_rowAt (by rw [mapG_length, mapG_length, hX.len, hY.len]) (fun i hi => ?_)
  rw [mapG_length, hX.len] at hi
  rw [rowAt_mapG (by rw [hX.len]; exact hi), rowAt_mapG (by rw [hY.len]; exact hi)]
  refine list_ext_ix (by rw [rowF_length, rowF_length, hX.row i hi, hY.row i hi]) (fun j hj => ?_)
  rw [rowF_length, hX.row i hi] at hj
  rw [ix_rowF (by rw [hX.row i hi]; exact hj), ix_rowF (by rw [hY.row i hi]; exact hj)]
  exact hf _ _ _ _
noncomputable def arB (T : Tr) : Bool := trB T && feasB T
open Classical in
noncomputable def arLo (T : Tr) : List (List Int) := if arB T = true then mapG (lowF T) T.lo else []
open Classical in
noncomputable def arHi (T : Tr) : List (List Int) := if arB T = true then mapG (highF T) T.hi else []
theorem Ret2G.nil {mk : Value → Value → Value} {w w' : World} (u : Ext w w') : Ret2G mk w [] [] (.returned (mk (.slice none 0 0) (.slice none 0 0))) w' :=
  ⟨_, [], _, [], w.heap.size, rfl, Nat.le_refl _, u.size, OwnG.nil, OwnG.nil, u⟩
theorem ar_off {T : Tr} (h : arB T = false) : arLo T = [] ∧ arHi T = [] := by simp [arLo, arHi, h]
theorem ar_on {T : Tr} (h : arB T = true) : arLo T = mapG (lowF T) T.lo ∧ arHi T = mapG (highF T) T.hi := by simp [arLo, arHi, h]

set_option maxRecDepth 100000 in
set_option maxHeartbeats 1600000 in
theorem implAllR_c (v : Value) (T : Tr) (w : World) (h : TrR w v T) : Calls Try.prog 41 #[v] w (Ret2G (fun v1 v2 => .tuple #[v1, v2, .bool (arB T)]) w (arLo T) (arHi T)) := by
  have H := Lib.hid h
  obtain ⟨a0, c0, a1, c1, a2, c2, a3, c3, rfl, n0, n1, n2, n3⟩ := h.form
  clear h
  have u0 := (Ext.refl w).alloc (.cells #[.slice a0 T.rows.length c0, .slice a1 T.cols.length c1, .slice a2 T.lo.length c2, .slice a3 T.hi.length c3] 29)
  have b0 := Box.new w 29 #[.slice a0 T.rows.length c0, .slice a1 T.cols.length c1, .slice a2 T.lo.length c2, .slice a3 T.hi.length c3] rfl
  have k0 := b0.cell 0 (by simp)
  have k1 := b0.cell 1 (by simp)
  have k2 := b0.cell 2 (by simp)
  have k3 := b0.cell 3 (by simp)
  have q22 : ∀ (w : World) (a : Option Addr) (n c : Nat), (binOp .eql 23 (.slice a n c) (.slice none 0 0)).run Try.prog w = .ok (.bool a.isNone) w := fun w a n c => Go.Lib.run_eql_slice_nil w _ _ a n c 0 0 Try.underlying23
  cases ht : trB T
  · have e1 : arB T = false := by simp [arB, ht]
    have e2 := ar_off e1
    rw [e1, e2.1, e2.2]
    clear e1 e2
    have HT := Lib.hid ht; clear ht
    go_enter Try.func41, Try.ntmps41
    go_wp2_with fail
    refine (implIsTransport_b false _ T _ HT.out (H.out.ext u0)).mono ?_
    rintro e w1 ⟨rfl, u1⟩
    go_wp2
    go_ret3
    exact Ret2G.nil (mk := fun v1 v2 => .tuple #[v1, v2, .bool false]) (u0.trans u1)
  have HO := Lib.hid (trB_true.1 ht)
  have e2 : T.lo.length = T.rows.length := HO.out.rcLo.len
  have e3 : T.hi.length = T.rows.length := HO.out.rcHi.len
  rw [e2, e3] at b0 k2 k3 u0 H ⊢
  clear e2 e3
  cases hb : feasB T
  · have e1 : arB T = false := by simp [arB, hb]
    have e2 := ar_off e1
    rw [e1, e2.1, e2.2]
    clear e1 e2
    have HT := Lib.hid ht; clear ht
    have HB := Lib.hid hb; clear hb
    go_enter Try.func41, Try.ntmps41
    go_wp2_with fail
    refine (implIsTransport_b true _ T _ HT.out (H.out.ext u0)).mono ?_
    rintro e w1 ⟨rfl, u1⟩
    have b1 := b0.ext u1
    have y0 := b1.cell 0 (by simp)
    have y1 := b1.cell 1 (by simp)
    have y2 := b1.cell 2 (by simp)
    have y3 := b1.cell 3 (by simp)
    have v1 := u0.trans u1
    go_wp2_with fail
    refine (anyFlow_c _ T _ (H.out.ext v1) HO.out).mono ?_
    rintro e w2 ⟨x2, rfl, u2, hp⟩
    rcases hp with ⟨rfl, hno⟩ | ⟨rvs, X, b, o, cap, rfl, oX, rcX, hfl⟩
    · clear hno
      go_wp2
      go_ret3
      exact Ret2G.nil (mk := fun v1 v2 => .tuple #[v1, v2, .bool false]) (v1.trans u2)
    · exact absurd ⟨_, hfl⟩ (feasB_false.1 HB.out)
  have e1 : arB T = true := by simp [arB, hb, ht]
  have e2 := ar_on e1
  rw [e1, e2.1, e2.2]
  clear e1 e2
  have HT := Lib.hid ht; clear ht
  have HB := Lib.hid hb; clear hb
  go_enter Try.func41, Try.ntmps41
  go_wp2_with fail
  refine (implIsTransport_b true _ T _ HT.out (H.out.ext u0)).mono ?_
  rintro e w1 ⟨rfl, u1⟩
  have b1 := b0.ext u1
  have y0 := b1.cell 0 (by simp)
  have y1 := b1.cell 1 (by simp)
  have y2 := b1.cell 2 (by simp)
  have y3 := b1.cell 3 (by simp)
  have v1 := u0.trans u1
  go_wp2_with fail
  refine (anyFlow_c _ T _ (H.out.ext v1) HO.out).mono ?_
  rintro e w2 ⟨x2, rfl, u2, hp⟩
  rcases hp with ⟨_, hno⟩ | ⟨rvs, X, b, o, cap, rfl, oX, rcX, hfl⟩
  · exact absurd (feasB_true.1 HB.out) hno
  · have hG := oX.grid
    have HG := Lib.hid hG; clear hG oX
    have HR := Lib.hid rcX; clear rcX
    have HFL := Lib.hid hfl; clear hfl
    have b2 := b1.ext u2
    have z0 := b2.cell 0 (by simp)
    have z1 := b2.cell 1 (by simp)
    have z2 := b2.cell 2 (by simp)
    have z3 := b2.cell 3 (by simp)
    have v2 := v1.trans u2
    have s2 := v2.size
    go_wp2_with fail
    refine (allRanges_c T X a0 a1 a2 a3 (some ⟨b, o, none⟩) c0 c1 c2 c3 cap T.rows.length T.cols.length _ rfl rfl (H.out.ext v2) HG.out HO.out HR.out HFL.out).mono ?_
    rintro e w3 ⟨x3, r3, x4, r4, mid, rfl, m1, m2, o3, o4, u3⟩
    rw [mapG_same HR.out HO.out.rcLo (fun _ _ _ _ => rfl)] at o3
    rw [mapG_same HR.out HO.out.rcHi (fun _ _ _ _ => rfl)] at o4
    go_wp2
    go_ret3
    exact ⟨x3, r3, x4, r4, mid, rfl, by omega, m2, o3.mono s2 (Nat.le_refl _), o4, v2.trans u3⟩
set_option maxRecDepth 100000 in
set_option maxHeartbeats 3200000 in
theorem specAllR_c (v : Value) (T : Tr) (w : World) (h : TrR w v T) : Calls Try.prog 40 #[v] w (Ret2G (fun v1 v2 => .tuple #[v1, v2, .bool (arB T)]) w (arLo T) (arHi T)) := by
  have H := Lib.hid h
  obtain ⟨a0, c0, a1, c1, a2, c2, a3, c3, rfl, n0, n1, n2, n3⟩ := h.form
  clear h
  have u0 := (Ext.refl w).alloc (.cells #[.slice a0 T.rows.length c0, .slice a1 T.cols.length c1, .slice a2 T.lo.length c2, .slice a3 T.hi.length c3] 29)
  have b0 := Box.new w 29 #[.slice a0 T.rows.length c0, .slice a1 T.cols.length c1, .slice a2 T.lo.length c2, .slice a3 T.hi.length c3] rfl
  have k0 := b0.cell 0 (by simp)
  have k1 := b0.cell 1 (by simp)
  have k2 := b0.cell 2 (by simp)
  have k3 := b0.cell 3 (by simp)
  cases ht : trB T
  · have e1 : arB T = false := by simp [arB, ht]
    have e2 := ar_off e1
    rw [e1, e2.1, e2.2]
    clear e1 e2
    have HT := Lib.hid ht; clear ht
    go_enter Try.func40, Try.ntmps40
    go_wp2_with fail
    refine (tGood_b false _ T _ HT.out (H.out.ext u0)).mono ?_
    rintro e w1 ⟨rfl, u1⟩
    go_wp2
    go_ret3
    exact Ret2G.nil (mk := fun v1 v2 => .tuple #[v1, v2, .bool false]) (u0.trans u1)
  have HO := Lib.hid (trB_true.1 ht)
  have e2 : T.lo.length = T.rows.length := HO.out.rcLo.len
  have e3 : T.hi.length = T.rows.length := HO.out.rcHi.len
  rw [e2, e3] at b0 k2 k3 u0 H ⊢
  clear e2 e3 n2 n3
  cases hb : feasB T
  · have e1 : arB T = false := by simp [arB, hb]
    have e2 := ar_off e1
    rw [e1, e2.1, e2.2]
    clear e1 e2
    have HT := Lib.hid ht; clear ht
    have HB := Lib.hid hb; clear hb
    go_enter Try.func40, Try.ntmps40
    go_wp2_with fail
    refine (tGood_b true _ T _ HT.out (H.out.ext u0)).mono ?_
    rintro e w1 ⟨rfl, u1⟩
    have b1 := b0.ext u1
    have y0 := b1.cell 0 (by simp)
    have y1 := b1.cell 1 (by simp)
    have y2 := b1.cell 2 (by simp)
    have y3 := b1.cell 3 (by simp)
    have v1 := u0.trans u1
    go_wp2_with fail
    refine (tFeasible_b false _ T _ HB.out (H.out.ext v1) HO.out).mono ?_
    rintro e w2 ⟨x2, rfl, u2⟩
    go_wp2
    go_ret3
    exact Ret2G.nil (mk := fun v1 v2 => .tuple #[v1, v2, .bool false]) (v1.trans u2)
  have e1 : arB T = true := by simp [arB, hb, ht]
  have e2 := ar_on e1
  rw [e1, e2.1, e2.2]
  clear e1 e2
  have HT := Lib.hid ht; clear ht
  have HB := Lib.hid hb; clear hb
  obtain ⟨n, hn⟩ : ∃ n, T.rows.length = n := ⟨_, rfl⟩
  obtain ⟨m, hm⟩ : ∃ m, T.cols.length = m := ⟨_, rfl⟩
  have d1 := HO.out.dims.1
  have d2 := HO.out.dims.2.1
  have d3 := HO.out.dims.2.2.1
  have d4 := HO.out.dims.2.2.2.1
  rw [hn] at H n0 d1 d2 b0 u0 k0 k2 k3 ⊢
  rw [hm] at H n1 d3 d4 b0 u0 k1 ⊢
  have RL : Hid (Rc n m T.lo) := Lib.hid (by rw [← hn, ← hm]; exact HO.out.rcLo)
  have RH : Hid (Rc n m T.hi) := Lib.hid (by rw [← hn, ← hm]; exact HO.out.rcHi)
  have HN := Lib.hid hn; clear hn
  have HM := Lib.hid hm; clear hm
  have hll := RL.out.len
  have hlh := RH.out.len
  have HLo : Hid (T.lo.length ≤ 1048576 ∧ (∀ k, k < T.lo.length → (rowAt T.lo k).length ≤ 1048576) ∧ ∀ k, k < T.lo.length → rowAt T.lo k ≠ []) := Lib.hid ⟨by omega, fun k hk => by
    have := RL.out.row k (by omega); omega, fun k hk e => by
    have := RL.out.row k (by omega); rw [e] at this; simp at this; omega⟩
  have HHi : Hid (T.hi.length ≤ 1048576 ∧ (∀ k, k < T.hi.length → (rowAt T.hi k).length ≤ 1048576) ∧ ∀ k, k < T.hi.length → rowAt T.hi k ≠ []) := Lib.hid ⟨by omega, fun k hk => by
    have := RH.out.row k (by omega); omega, fun k hk e => by
    have := RH.out.row k (by omega); rw [e] at this; simp at this; omega⟩
  have HLL := Lib.hid hll; clear hll
  have HLH := Lib.hid hlh; clear hlh
  go_enter Try.func40, Try.ntmps40
  go_wp2_with fail
  refine (tGood_b true _ T _ HT.out (H.out.ext u0)).mono ?_
  rintro e w1 ⟨rfl, u1⟩
  have b1 := b0.ext u1
  have y0 := b1.cell 0 (by simp)
  have y1 := b1.cell 1 (by simp)
  have y2 := b1.cell 2 (by simp)
  have y3 := b1.cell 3 (by simp)
  have v1 := u0.trans u1
  go_wp2_with fail
  refine (tFeasible_b true _ T _ HB.out (H.out.ext v1) HO.out).mono ?_
  rintro e w2 ⟨x2, rfl, u2⟩
  have b2 := b1.ext u2
  have z0 := b2.cell 0 (by simp)
  have z1 := b2.cell 1 (by simp)
  have z2 : w2.cell? ⟨w.heap.size, 2, none⟩ = some (.slice a2 n c2) := b2.cell 2 (by simp)
  have z3 : w2.cell? ⟨w.heap.size, 3, none⟩ = some (.slice a3 n c3) := b2.cell 3 (by simp)
  have v2 := v1.trans u2
  clear y0 y1 y2 y3 k0 k1 k2 k3
  have HGL := Lib.hid (H.out.f2.ext v2)
  have HGH := Lib.hid (H.out.f3.ext v2)
  go_wp2_with fail
  go_region_held3 (fun x => x.cell? ⟨w.heap.size, 2, none⟩ = some (.slice a2 n c2) ∧ x.cell? ⟨w.heap.size, 3, none⟩ = some (.slice a3 n c3))
    (first | exact ⟨E4.cell z2, E4.cell z3⟩ | exact ⟨E3.cell z2, E3.cell z3⟩ | exact ⟨z2, z3⟩ | go_keep)
    ((first
      | (go_at_call 76; (with_reducible refine (tOwn_c (.slice a3 n c3) T.hi _ (HGH.out.ext E3) HHi.out.1 HHi.out.2.1 HHi.out.2.2).mono ?_); rintro e w4 ⟨x4, r4, rfl, o4, u4⟩; obtain ⟨b4, g4, rfl, q41, q42, q43⟩ := o4; have G4 := Lib.hid q43; clear q43; have E4 := E3.trans u4)
      | (go_at_call 76; (with_reducible refine (tOwn_c (.slice a2 n c2) T.lo _ (HGL.out.ext (Ext.refl _).drew) HLo.out.1 HLo.out.2.1 HLo.out.2.2).mono ?_); rintro e w3 ⟨x3, r3, rfl, o3, u3⟩; obtain ⟨b3, g3, rfl, q31, q32, q33⟩ := o3; have G3 := Lib.hid q33; clear q33; have E3 := (Ext.refl w2).drew.trans u3)))
  have s2 := v2.size
  have s3 : w2.heap.size ≤ w3.heap.size := E3.size
  have s4 := u4.size
  have hs2 : w.heap.size + 1 ≤ w2.heap.size := b2.lt
  have G3' := Lib.hid (((G3.out.ext u4).mono (lo' := w2.heap.size) (Nat.le_refl _) (Nat.le_refl w3.heap.size)))
  clear G3
  have q3 : n ≤ g3 := by have := HLL.out; omega
  have q4 : n ≤ g4 := by have := HLH.out; omega
  rw [HLL.out, HLH.out]
  clear q31 q41
  obtain ⟨sb1, so1, rfl, _⟩ := G3'.out.at_ (k := 0) (by rw [HLL.out]; omega)
  obtain ⟨sb2, so2, rfl, _⟩ := G4.out.at_ (k := 0) (by rw [HLH.out]; omega)
  have FE := Lib.hid (feasB_true.1 HB.out)
  go_wp2
  go_loopw [29] (fun i wr => ∃ (k : Nat) (zs ys : List (List Int)), k ≤ n ∧ i = .int .i64 k ∧ OwnGA w2.heap.size w3.heap.size wr (some ⟨sb1, so1, none⟩) r3 zs ∧ Mix (lowF T) T.lo zs k 0 ∧ OwnGA w3.heap.size w4.heap.size wr (some ⟨sb2, so2, none⟩) r4 ys ∧ Mix (highF T) T.hi ys k 0 ∧ w4.heap.size ≤ wr.heap.size ∧ Ext w2 wr) (fun i _ => n - (intOf i).toNat)
  case atStart => exact ⟨0, T.lo, T.hi, Nat.zero_le _, rfl, G3'.out, Mix.start, G4.out, Mix.start, Nat.le_refl _, E4⟩
  case round =>
    obtain ⟨k, zs, ys, hk, rfl, hg1, hm1, hg2, hm2, hsz, hx⟩ := hrel
    obtain ⟨wo, rfl⟩ : ∃ wo : World, wo = wr := ⟨_, rfl⟩
    have HM1 := Lib.hid hm1; clear hm1
    have HM2 := Lib.hid hm2; clear hm2
    have HG1 := Lib.hid hg1; clear hg1
    have HG2 := Lib.hid hg2; clear hg2
    by_cases hlt : k < n
    · have hkL : k < T.lo.length := by rw [HLL.out]; exact hlt
      have hkH : k < T.hi.length := by rw [HLH.out]; exact hlt
      have hz1 : k < zs.length := by rw [HM1.out.len]; exact hkL
      obtain ⟨ar0, cr0, ev0, _, _⟩ := HG1.out.rowForm hz1
      obtain ⟨_, _, e3, _, _, _, hc0, _⟩ := HG1.out.at_ hz1
      simp only [Option.some.injEq, Addr.mk.injEq, and_true] at e3
      obtain ⟨rfl, rfl⟩ := e3
      rw [ev0, HM1.out.row k hkL, RL.out.row k hlt] at hc0
      clear ev0 hz1
      have KL := Lib.hid hkL; clear hkL
      have KH := Lib.hid hkH; clear hkH
      go_wp2
      go_loopw [37] (fun i wr' => ∃ (l : Nat) (zs' ys' : List (List Int)), l ≤ m ∧ i = .int .i64 l ∧ OwnGA w2.heap.size w3.heap.size wr' (some ⟨sb1, so1, none⟩) r3 zs' ∧ Mix (lowF T) T.lo zs' k l ∧ OwnGA w3.heap.size w4.heap.size wr' (some ⟨sb2, so2, none⟩) r4 ys' ∧ Mix (highF T) T.hi ys' k l ∧ w4.heap.size ≤ wr'.heap.size ∧ Ext w2 wr') (fun i _ => m - (intOf i).toNat)
      case atStart => exact ⟨0, zs, ys, Nat.zero_le _, rfl, HG1.out, HM1.out, HG2.out, HM2.out, hsz, hx⟩
      case round =>
        clear hc0
        obtain ⟨l, zs', ys', hl, rfl, hg1', hm1', hg2', hm2', hsz', hx'⟩ := hrel
        obtain ⟨wi, rfl⟩ : ∃ wi : World, wi = wr := ⟨_, rfl⟩
        have HM1' := Lib.hid hm1'; clear hm1'
        have HM2' := Lib.hid hm2'; clear hm2'
        have HG1' := Lib.hid hg1'; clear hg1'
        have HG2' := Lib.hid hg2'; clear hg2'
        by_cases hl2 : l < m
        · have hz1 : k < zs'.length := by rw [HM1'.out.len]; exact KL.out
          have hz2 : k < ys'.length := by rw [HM2'.out.len]; exact KH.out
          have hr1 : l < (rowAt zs' k).length := by rw [HM1'.out.row k KL.out, RL.out.row k hlt]; exact hl2
          have hr2 : l < (rowAt ys' k).length := by rw [HM2'.out.row k KH.out, RH.out.row k hlt]; exact hl2
          obtain ⟨ar1, cr1, ev1, n1, n1'⟩ := HG1'.out.rowForm hz1
          obtain ⟨ar2, cr2, ev2, n2, n2'⟩ := HG2'.out.rowForm hz2
          rw [HM1'.out.row k KL.out, RL.out.row k hlt] at ev1 n1
          rw [HM2'.out.row k KH.out, RH.out.row k hlt] at ev2 n2
          obtain ⟨b4, o4, rfl, lb4, lb4', _, _, _, _⟩ := HG1'.out.store (l := l) hz1 hr1 ev1
          obtain ⟨b6, o6, rfl, lb6, lb6', _, _, _, _⟩ := HG2'.out.store (l := l) hz2 hr2 ev2
          have EV1 := Lib.hid ev1; clear ev1
          have EV2 := Lib.hid ev2; clear ev2
          obtain ⟨_, _, e3, lb3, lb3', _, hc3, _⟩ := HG1'.out.at_ hz1
          simp only [Option.some.injEq, Addr.mk.injEq, and_true] at e3
          obtain ⟨rfl, rfl⟩ := e3
          obtain ⟨_, _, e3, lb5, lb5', _, hc5, _⟩ := HG2'.out.at_ hz2
          simp only [Option.some.injEq, Addr.mk.injEq, and_true] at e3
          obtain ⟨rfl, rfl⟩ := e3
          rw [EV1.out] at hc3
          rw [EV2.out] at hc5
          have hap1 := HG1'.out.apart hz1 (by intro e; rw [e] at hr1; simp at hr1)
          rw [EV1.out] at hap1
          simp only [blk, ablk] at hap1
          have hap2 := HG2'.out.apart hz2 (by intro e; rw [e] at hr2; simp at hr2)
          rw [EV2.out] at hap2
          simp only [blk, ablk] at hap2
          have bo := b2.ext hx'
          have y0 : wi.cell? ⟨w.heap.size, 0, none⟩ = some (.slice a0 n c0) := bo.cell 0 (by simp)
          have y1 : wi.cell? ⟨w.heap.size, 1, none⟩ = some (.slice a1 m c1) := bo.cell 1 (by simp)
          have y2 : wi.cell? ⟨w.heap.size, 2, none⟩ = some (.slice a2 n c2) := bo.cell 2 (by simp)
          have y3 : wi.cell? ⟨w.heap.size, 3, none⟩ = some (.slice a3 n c3) := bo.cell 3 (by simp)
          clear bo
          obtain ⟨VL, hVL⟩ : ∃ V, lowV T k l = V := ⟨_, rfl⟩
          obtain ⟨VH, hVH⟩ : ∃ V, highV T k l = V := ⟨_, rfl⟩
          have HVL := Lib.hid hVL; clear hVL
          have HVH := Lib.hid hVH; clear hVH
          have nb4 : b4 ≠ w.heap.size ∧ b4 ≠ sb1 := ⟨by omega, hap1⟩
          have nb6 : b6 ≠ w.heap.size ∧ b6 ≠ sb2 := ⟨by omega, hap2⟩
          have keepS : ∀ (x : World) (a : Addr) (v rv : Value) (sb so : Nat), (x.cell? ⟨w.heap.size, 0, none⟩ = some (.slice a0 n c0) ∧ x.cell? ⟨w.heap.size, 1, none⟩ = some (.slice a1 m c1) ∧ x.cell? ⟨w.heap.size, 2, none⟩ = some (.slice a2 n c2) ∧ x.cell? ⟨w.heap.size, 3, none⟩ = some (.slice a3 n c3) ∧ x.cell? ⟨sb, so, none⟩ = some rv) →
              (a.block ≠ w.heap.size ∧ a.block ≠ sb) → ((x.setCell a v).cell? ⟨w.heap.size, 0, none⟩ = some (.slice a0 n c0) ∧ (x.setCell a v).cell? ⟨w.heap.size, 1, none⟩ = some (.slice a1 m c1) ∧ (x.setCell a v).cell? ⟨w.heap.size, 2, none⟩ = some (.slice a2 n c2) ∧ (x.setCell a v).cell? ⟨w.heap.size, 3, none⟩ = some (.slice a3 n c3) ∧ (x.setCell a v).cell? ⟨sb, so, none⟩ = some rv) :=
            fun x a v rv sb so h hne => ⟨(cell_far (Ne.symm hne.1)).trans h.1, (cell_far (Ne.symm hne.1)).trans h.2.1, (cell_far (Ne.symm hne.1)).trans h.2.2.1, (cell_far (Ne.symm hne.1)).trans h.2.2.2.1, (cell_far (Ne.symm hne.2)).trans h.2.2.2.2⟩
          have KS := Lib.hid keepS; clear keepS
          have ST1 := Lib.hid (HG1'.out.storeAt (l := l) hz1 hr1 EV1.out)
          have hH : Hid (TrR wi.drew (.agg #[.slice a0 n c0, .slice a1 m c1, .slice a2 n c2, .slice a3 n c3]) T) := Lib.hid (H.out.ext (v2.trans hx').drew)
          go_wp2_with fail
          go_region_held3 (fun x => x.cell? ⟨w.heap.size, 0, none⟩ = some (.slice a0 n c0) ∧ x.cell? ⟨w.heap.size, 1, none⟩ = some (.slice a1 m c1) ∧ x.cell? ⟨w.heap.size, 2, none⟩ = some (.slice a2 n c2) ∧ x.cell? ⟨w.heap.size, 3, none⟩ = some (.slice a3 n c3) ∧ x.cell? ⟨sb1, so1 + k, none⟩ = some (.slice (some ⟨b4, o4, none⟩) m cr1))
            (first | exact ⟨Ext.cell u5 y0, Ext.cell u5 y1, Ext.cell u5 y2, Ext.cell u5 y3, Ext.cell u5 hc3⟩ | exact KS.out _ _ _ _ _ _ (by assumption) nb4 | go_keep)
            ((go_at_call 77; refine (tLow_c T a0 a1 a2 a3 c0 c1 c2 c3 n m k l wi.drew HN.out HM.out hH.out HO.out hlt hl2 FE.out).mono ?_; rw [HVL.out]; rintro e w5 ⟨rfl, u5⟩; have f4 := (ST1.out w5 ((Ext.refl _).drew.trans u5)).2; have d4 := (ST1.out w5 ((Ext.refl _).drew.trans u5)).1))
          have e5 := (Ext.refl wi).drew.trans u5
          have g1' := HG1'.out.ext e5
          obtain ⟨_, _, e7, _, _, _, _, _, st1⟩ := g1'.store (l := l) hz1 hr1 EV1.out
          simp only [Option.some.injEq, Addr.mk.injEq, and_true] at e7
          obtain ⟨rfl, rfl⟩ := e7
          have g2' := (HG2'.out.ext e5).put_away ⟨b4, o4 + l, none⟩ (.int .i64 VL) (.inl (by simp only; omega))
          have g3' := st1 VL
          have hx6 := (hx'.trans e5).setCell (a := ⟨b4, o4 + l, none⟩) (.int .i64 VL) (by simp only; omega)
          have hs6 : w4.heap.size ≤ (w5.setCell ⟨b4, o4 + l, none⟩ (.int .i64 VL)).heap.size := by rw [World.size_setCell]; have := u5.size; simp at this; omega
          clear st1 g1' f4 d4 y0 y1 y2 y3 hc3 hc5 hH
          obtain ⟨w6, hw6⟩ : ∃ x, w5.setCell ⟨b4, o4 + l, none⟩ (.int .i64 VL) = x := ⟨_, rfl⟩
          rw [hw6] at g2' g3' hx6 hs6
          have HW6 := Lib.hid hw6; clear hw6
          have G6 := Lib.hid g3'; clear g3'
          have HG2' := Lib.hid g2'; clear g2'
          obtain ⟨_, _, e3, _, _, _, hc5, _⟩ := HG2'.out.at_ hz2
          simp only [Option.some.injEq, Addr.mk.injEq, and_true] at e3
          obtain ⟨rfl, rfl⟩ := e3
          rw [EV2.out] at hc5
          have bo := b2.ext hx6
          have y0 : w6.cell? ⟨w.heap.size, 0, none⟩ = some (.slice a0 n c0) := bo.cell 0 (by simp)
          have y1 : w6.cell? ⟨w.heap.size, 1, none⟩ = some (.slice a1 m c1) := bo.cell 1 (by simp)
          have y2 : w6.cell? ⟨w.heap.size, 2, none⟩ = some (.slice a2 n c2) := bo.cell 2 (by simp)
          have y3 : w6.cell? ⟨w.heap.size, 3, none⟩ = some (.slice a3 n c3) := bo.cell 3 (by simp)
          clear bo
          have ST2 := Lib.hid (HG2'.out.storeAt (l := l) hz2 hr2 EV2.out)
          have hH : Hid (TrR w6.drew (.agg #[.slice a0 n c0, .slice a1 m c1, .slice a2 n c2, .slice a3 n c3]) T) := Lib.hid (H.out.ext (v2.trans hx6).drew)
          go_wp2_with fail
          rw [HW6.out]
          go_region_held3 (fun x => x.cell? ⟨w.heap.size, 0, none⟩ = some (.slice a0 n c0) ∧ x.cell? ⟨w.heap.size, 1, none⟩ = some (.slice a1 m c1) ∧ x.cell? ⟨w.heap.size, 2, none⟩ = some (.slice a2 n c2) ∧ x.cell? ⟨w.heap.size, 3, none⟩ = some (.slice a3 n c3) ∧ x.cell? ⟨sb2, so2 + k, none⟩ = some (.slice (some ⟨b6, o6, none⟩) m cr2))
            (first | exact ⟨Ext.cell u7 y0, Ext.cell u7 y1, Ext.cell u7 y2, Ext.cell u7 y3, Ext.cell u7 hc5⟩ | exact KS.out _ _ _ _ _ _ (by assumption) nb6 | go_keep)
            ((go_at_call 78; refine (tHigh_c T a0 a1 a2 a3 c0 c1 c2 c3 n m k l w6.drew HN.out HM.out hH.out HO.out hlt hl2 FE.out).mono ?_; rw [HVH.out]; rintro e w7 ⟨rfl, u7⟩; have f6 := (ST2.out w7 ((Ext.refl _).drew.trans u7)).2; have d6 := (ST2.out w7 ((Ext.refl _).drew.trans u7)).1))
          have e7 := (Ext.refl w6).drew.trans u7
          have g2' := HG2'.out.ext e7
          obtain ⟨_, _, e8, _, _, _, _, _, st2⟩ := g2'.store (l := l) hz2 hr2 EV2.out
          simp only [Option.some.injEq, Addr.mk.injEq, and_true] at e8
          obtain ⟨rfl, rfl⟩ := e8
          have GG := Lib.hid (And.intro ((G6.out.ext e7).put_away ⟨b6, o6 + l, none⟩ (.int .i64 VH) (.inr (by simp only; omega))) (st2 VH))
          have hxx := Lib.hid ((hx6.trans e7).setCell (a := ⟨b6, o6 + l, none⟩) (.int .i64 VH) (by simp only; omega))
          have hss : w4.heap.size ≤ w7.heap.size := by have := u7.size; simp at this; omega
          clear g2' st2 f6 d6
          go_wp2
          go_roundw
          case rel => exact ⟨l + 1, _, _, by omega, by go_num, GG.out.1, HM1'.out.step KL.out (by rw [RL.out.row k hlt]; exact hl2) HVL.out.symm, GG.out.2, HM2'.out.step KH.out (by rw [RH.out.row k hlt]; exact hl2) HVH.out.symm, by simp only [World.size_setCell]; exact hss, hxx.out⟩
          case measure => simp [intOf]; omega
        · have hlm1 : (rowAt T.lo k).length ≤ l := by rw [RL.out.row k hlt]; omega
          have hlm2 : (rowAt T.hi k).length ≤ l := by rw [RH.out.row k hlt]; omega
          have L1 := Lib.hid hlm1; clear hlm1
          have L2 := Lib.hid hlm2; clear hlm2
          go_wp2
          go_roundw
          case rel => exact ⟨k + 1, zs', ys', by omega, by go_num, HG1'.out, HM1'.out.next L1.out, HG2'.out, HM2'.out.next L2.out, hsz', hx'⟩
          case measure => simp [intOf]; omega
    · have hk1 := HM1.out.done (by rw [HLL.out]; omega)
      have hk2 := HM2.out.done (by rw [HLH.out]; omega)
      subst hk1; subst hk2
      have e1 : (mapG (lowF T) T.lo).length = n := by rw [mapG_length]; exact HLL.out
      have e2 : (mapG (highF T) T.hi).length = n := by rw [mapG_length]; exact HLH.out
      have HEE := Lib.hid (And.intro e1 e2); clear e1 e2
      go_wp2
      go_ret3
      exact ⟨.slice (some ⟨sb1, so1, none⟩) n g3, r3, .slice (some ⟨sb2, so2, none⟩) n g4, r4, w3.heap.size, rfl, by omega, by omega, ⟨some ⟨sb1, so1, none⟩, g3, by rw [HEE.out.1], by rw [HEE.out.1]; exact q3, q32, HG1.out.mono (by omega) (Nat.le_refl _)⟩, ⟨some ⟨sb2, so2, none⟩, g4, by rw [HEE.out.2], by rw [HEE.out.2]; exact q4, q42, HG2.out.mono (Nat.le_refl _) hsz⟩, v2.trans hx⟩
end Go.Proofs.Ythdfiebacomilaa
