/- The heights of the tables of a plan: the spec's lHeights. -/
import Derived.Test.YtolmmhdeebgglaaLcS
import Derived.Test.YtolmmhdeebgglaaSrc
import Derived.BigRegion
import Derived.Deep.LoopGhost
import Derived.Deep.CutRange
import Derived.Deep.CutBlock
import Derived.StillTailTactics
namespace Go.Proofs.Ytolmmhdeebgglaa
open Go.RowKit

/-- what holds of the heights found so far in round r, ahead of table i -/
structure MidH (n : Nat) (lt : Nat → Nat → Bool) (r i : Nat) (xs : List Int) : Prop where
  len : xs.length = n
  up : ∀ j, j < n → 0 ≤ ix xs j ∧ ix xs j ≤ hgt n lt j
  lo : ∀ j, j < n → (min r (hgt n lt j) : Nat) ≤ ix xs j
  new : ∀ j, j < i → (min (r + 1) (hgt n lt j) : Nat) ≤ ix xs j
/-- .. and within table i's own turn, ahead of table k -/
structure InH (n : Nat) (lt : Nat → Nat → Bool) (r i k : Nat) (xs : List Int) : Prop where
  mid : MidH n lt r i xs
  one : 1 ≤ ix xs i
  got : ∀ j, j < k → lt j i = true → (min r (hgt n lt j) : Nat) + 1 ≤ ix xs i
theorem MidH.set {n : Nat} {lt : Nat → Nat → Bool} {r i : Nat} {xs : List Int} (h : MidH n lt r i xs) {v : Int} (hi : i < n) (h1 : ix xs i ≤ v) (h2 : v ≤ hgt n lt i) : MidH n lt r i (xs.set i v) := by
  have e : ∀ j, ix (xs.set i v) j = if j = i then v else ix xs j := fun j => by
    rw [ix_set]; by_cases hj : j = i <;> simp [hj, h.len, hi]
  refine ⟨by rw [List.length_set]; exact h.len, fun j hj => ?_, fun j hj => ?_, fun j hj => ?_⟩
  · rw [e]
    have := h.up j hj
    by_cases hji : j = i
    · subst hji; rw [if_pos rfl]; omega
    · rw [if_neg hji]; exact this
  · rw [e]
    have := h.lo j hj
    by_cases hji : j = i
    · subst hji; rw [if_pos rfl]; omega
    · rw [if_neg hji]; exact this
  · rw [e, if_neg (by omega)]; exact h.new j hj
theorem MidH.start {n : Nat} {lt : Nat → Nat → Bool} {r i : Nat} {xs : List Int} (hs : Strict n lt) (h : MidH n lt r i xs) (hi : i < n) : InH n lt r i 0 (xs.set i (imax (ix xs i) 1)) := by
  have h1 := hgt_pos hs hi
  have h2 := h.up i hi
  have hm : ix xs i ≤ imax (ix xs i) 1 ∧ 1 ≤ imax (ix xs i) 1 ∧ imax (ix xs i) 1 ≤ hgt n lt i := by unfold imax; omega
  refine ⟨h.set hi hm.1 hm.2.2, ?_, fun j hj => by omega⟩
  rw [ix_set, if_pos ⟨rfl, by rw [h.len]; exact hi⟩]; exact hm.2.1
theorem InH.skip {n : Nat} {lt : Nat → Nat → Bool} {r i k : Nat} {xs : List Int} (h : InH n lt r i k xs) (hl : lt k i = false) : InH n lt r i (k + 1) xs :=
  ⟨h.mid, h.one, fun j hj hp => by
    by_cases e : j = k
    · rw [e, hl] at hp; cases hp
    · exact h.got j (by omega) hp⟩
theorem InH.take {n : Nat} {lt : Nat → Nat → Bool} {r i k : Nat} {xs : List Int} (hs : Strict n lt) (h : InH n lt r i k xs) (hi : i < n) (hk : k < n) (hl : lt k i = true) : InH n lt r i (k + 1) (xs.set i (imax (ix xs i) (ix xs k + 1))) := by
  have h1 := hgt_below hs hk hi hl
  have h2 := h.mid.up i hi
  have h3 := h.mid.up k hk
  have h4 := h.mid.lo k hk
  have hm : ix xs i ≤ imax (ix xs i) (ix xs k + 1) ∧ ix xs k + 1 ≤ imax (ix xs i) (ix xs k + 1) ∧ imax (ix xs i) (ix xs k + 1) ≤ hgt n lt i := by unfold imax; omega
  have e : ix (xs.set i (imax (ix xs i) (ix xs k + 1))) i = imax (ix xs i) (ix xs k + 1) := by rw [ix_set, if_pos ⟨rfl, by rw [h.mid.len]; exact hi⟩]
  refine ⟨h.mid.set hi hm.1 hm.2.2, by rw [e]; have := h.one; omega, fun j hj hp => ?_⟩
  rw [e]
  by_cases ej : j = k
  · rw [ej]; omega
  · have := h.got j (by omega) hp; omega
theorem InH.done {n : Nat} {lt : Nat → Nat → Bool} {r i : Nat} {xs : List Int} (hs : Strict n lt) (h : InH n lt r i n xs) (hi : i < n) : MidH n lt r (i + 1) xs := by
  refine ⟨h.mid.len, h.mid.up, h.mid.lo, fun j hj => ?_⟩
  by_cases e : j = i
  · subst e
    rcases chn_next hs hi with ⟨_, e1⟩ | ⟨k, hk, hl, _, e1, _⟩
    · have := h.one; rw [e1]; omega
    · have := h.got k hk hl; rw [e1]; omega
  · exact h.mid.new j (by omega)
theorem MidH.round {n : Nat} {lt : Nat → Nat → Bool} {r : Nat} {xs : List Int} (h : MidH n lt r n xs) : MidH n lt (r + 1) 0 xs := ⟨h.len, h.up, h.new, fun j hj => by omega⟩
theorem MidH.end_ {n : Nat} {lt : Nat → Nat → Bool} {xs : List Int} (hs : Strict n lt) (h : MidH n lt n 0 xs) : ∀ j, j < n → ix xs j = hgt n lt j := fun j hj => by
  have h1 := hgt_len hs hj
  have h2 := h.lo j hj
  have h3 := h.up j hj
  omega

set_option maxRecDepth 100000 in
set_option maxHeartbeats 6400000 in
theorem lHeights_c (v1 v2 v3 : Value) (T : Ge) (s : List Vr) (l : List Ta) (w : World) (h1 : GeR w v1 T) (h2 : Vrs w v2 s) (h3 : Tabs w v3 l) (hp : PlanP T.par s l) :
    Calls Try.prog 44 #[v1, v2, v3] w fun e w' => ∃ v' xs, e = .returned v' ∧ Ints w' v' xs ∧ xs.length = l.length ∧ (∀ j, j < l.length → ix xs j = hgt l.length (ltL T.par s l) j) ∧ Ext w w' := by
  have HPP := Lib.hid hp; clear hp
  have HST := Lib.hid (ltL_strict HPP.out)
  have R1 := Lib.hid h1
  have R2 := Lib.hid h2; clear h2
  obtain ⟨y1, rfl, i1⟩ := h1
  clear i1
  obtain ⟨a3, c3, rfl, e1, e2, g3⟩ := h3
  have h20 := HPP.out.2.2.1
  obtain ⟨n, hn⟩ : ∃ n, l.length = n := ⟨_, rfl⟩
  obtain ⟨LT, hLT⟩ : ∃ L, ltL T.par s l = L := ⟨_, rfl⟩
  rw [hn] at e1 h20 HST ⊢
  rw [hLT] at HST ⊢
  have HN := Lib.hid hn; clear hn
  have HLT := Lib.hid hLT; clear hLT
  have u0 := (Ext.refl w).alloc (.cells #[y1] 33)
  have b1 := Box.new w 33 #[y1] rfl
  have R1 := Lib.hid (R1.out.ext u0)
  have R2 := Lib.hid (R2.out.ext u0)
  have G3 := Lib.hid (TabsA.ext g3 u0); clear g3
  obtain ⟨w1, hw1⟩ : ∃ w1, w1 = w.alloc (.cells #[y1] 33) := ⟨_, rfl⟩
  have hmk := run_make_row' (P := Try.prog) 22 3 (.int .i64 0) 8 Try.underlying22 info_int rfl .i64 .i64 n (by omega) (by omega)
  go_enter Try.func44, Try.ntmps44
  go_wp2_with fail
  try rw [← hw1]
  rw [← hw1] at u0 b1 R1 R2 G3
  have hsz1 : Hid (w1.heap.size = w.heap.size + 1) := Lib.hid (by rw [hw1]; simp)
  clear hw1
  go_loopw [17] (fun i wr => ∃ (r : Nat) (xs : List Int), r ≤ n ∧ i = .int .i64 r ∧ MidH n LT r 0 xs ∧ wr.rowIs (w.heap.size + 1) 3 n (fun j => .int .i64 (ix xs j)) ∧ Ext w1 wr ∧ w.heap.size + 1 < wr.heap.size) (fun i _ => n - (intOf i).toNat)
  case atStart =>
    refine ⟨0, List.replicate n 0, Nat.zero_le _, rfl, ⟨by simp, fun j hj => ?_, fun j hj => ?_, fun j hj => by omega⟩, World.rowIs.congr (by have h := World.rowIs_made w1 (.int .i64 0) n 3; rw [hsz1.out] at h; exact h) (fun j hj => ?_), (Ext.refl _).alloc _, by have := hsz1.out; simp; omega⟩
    · simp [ix, List.getD, hj]
    · simp [ix, List.getD, hj]
    · simp [ix, List.getD, hj]
  case round =>
    clear hmk
    obtain ⟨r, xs, hr, rfl, hmid, hrow, hx, hsz⟩ := hrel
    obtain ⟨wo, rfl⟩ : ∃ wo : World, wo = wr := ⟨_, rfl⟩
    have HM := Lib.hid hmid; clear hmid
    have HR := Lib.hid hrow; clear hrow
    by_cases hlt0 : r < n
    · go_wp2_with fail
      go_loopw [21] (fun i wr => ∃ (i' : Nat) (xs : List Int), i' ≤ n ∧ i = .int .i64 i' ∧ MidH n LT r i' xs ∧ wr.rowIs (w.heap.size + 1) 3 n (fun j => .int .i64 (ix xs j)) ∧ Ext w1 wr ∧ w.heap.size + 1 < wr.heap.size) (fun i _ => n - (intOf i).toNat)
      case atStart => exact ⟨0, xs, Nat.zero_le _, rfl, HM.out, HR.out, hx, hsz⟩
      case round =>
        clear HM HR hx hsz
        obtain ⟨i, ys, hi, rfl, hmid, hrow, hx, hsz⟩ := hrel
        obtain ⟨wo, rfl⟩ : ∃ wo : World, wo = wr := ⟨_, rfl⟩
        have HM := Lib.hid hmid; clear hmid
        have HR := Lib.hid hrow; clear hrow
        by_cases hlt1 : i < n
        · obtain ⟨b1_, o1_, x11, m11, y11, x12, m12, y12, rfl, q10, q11, q12, q13, RK1⟩ := (G3.out).elt (k := i) (by rw [HN.out]; exact hlt1)
          have RT1 := Lib.hid RK1; clear RK1
          have HT1 := Lib.hid (HPP.out.2.2.2 i (by rw [HN.out]; exact hlt1))
          obtain ⟨t1, ht1⟩ : ∃ t, taAt l i = t := ⟨_, rfl⟩
          rw [ht1] at q10 q13 RT1 HT1
          have HE1 := Lib.hid ht1; clear ht1
          obtain ⟨A1, hA1⟩ : ∃ A, t1.level = A := ⟨_, rfl⟩
          obtain ⟨B1, hB1⟩ : ∃ A, t1.sum = A := ⟨_, rfl⟩
          rw [hA1] at q10 RT1
          rw [hB1] at q13 RT1
          clear hA1 hB1
          have d10 := Ext.cell hx q10
          have d11 := Ext.cell hx q11
          have d12 := Ext.cell hx q12
          have d13 := Ext.cell hx q13
          clear q10 q11 q12 q13
          have bx1 := Box.new wo 56 #[.int .i64 A1, .slice x11 m11 y11, .slice x12 m12 y12, .int .i64 B1] rfl
          have ux1 := (Ext.refl wo).alloc (.cells #[.int .i64 A1, .slice x11 m11 y11, .slice x12 m12 y12, .int .i64 B1] 56)
          have hcell := (rowIs_ext HR.out ux1).cell (i := i) hlt1
          have hfr := (rowIs_ext HR.out ux1).frozen i
          have HR1 := Lib.hid (rowIs_ext HR.out ux1)
          have HIN := Lib.hid (HM.out.start HST.out hlt1)
          go_wp2_with fail
          refine (l1Most_c _ _ _).mono ?_
          rintro e w2 ⟨rfl, hw2⟩
          rw [hw2]
          clear hw2
          go_wp2_with fail
          obtain ⟨wb, hwb⟩ : ∃ wb, wb = (wo.setCell ⟨w.heap.size + 1, i, none⟩ (.int .i64 (imax (ix ys i) 1))).alloc (.cells #[.int .i64 A1, .slice x11 m11 y11, .slice x12 m12 y12, .int .i64 B1] 56) := ⟨_, rfl⟩
          have hsb : Hid (wb.heap.size = wo.heap.size + 1) := Lib.hid (by rw [hwb]; simp [World.setCell])
          have bx1 : Box wb wo.heap.size 56 #[.int .i64 A1, .slice x11 m11 y11, .slice x12 m12 y12, .int .i64 B1] := by rw [hwb]; exact Box.new (wo.setCell ⟨w.heap.size + 1, i, none⟩ (.int .i64 (imax (ix ys i) 1))) _ _ (b := wo.heap.size) (by simp [World.setCell])
          have HR2 : Hid (wb.rowIs (w.heap.size + 1) 3 n (fun j => .int .i64 (ix (ys.set i (imax (ix ys i) 1)) j))) := Lib.hid (by
            rw [hwb]
            exact rowIs_ext ((HR.out.set i (.int .i64 (imax (ix ys i) 1))).congr (g := fun j => .int .i64 (ix (ys.set i (imax (ix ys i) 1)) j)) (fun j hj => by
              rw [ix_set, HM.out.len]
              by_cases e : j = i
              · subst e; simp [hlt1]
              · simp [e])) ((Ext.refl _).alloc _))
          have HXB : Hid (Ext w1 wb) := Lib.hid (by rw [hwb]; exact (hx.setCell (a := ⟨w.heap.size + 1, i, none⟩) _ (by have := hsz1.out; show w1.heap.size ≤ w.heap.size + 1; omega)).alloc _)
          rw [← hwb]
          clear hwb d10 d11 d12 d13 hcell hfr ux1 HR1
          go_loopw [36] (fun x wr => ∃ (k : Nat) (zs : List Int), k ≤ n ∧ x = .int .i64 k ∧ InH n LT r i k zs ∧ wr.rowIs (w.heap.size + 1) 3 n (fun j => .int .i64 (ix zs j)) ∧ Ext w1 wr ∧ Upd (fun b => b = w.heap.size + 1) wb wr) (fun x _ => n - (intOf x).toNat)
          case atStart => exact ⟨0, _, Nat.zero_le _, rfl, HIN.out, HR2.out, HXB.out, Upd.refl _⟩
          case round =>
            clear HR HR2 HM HIN HXB
            obtain ⟨k, zs, hk, rfl, hin, hrow, hxi, hui⟩ := hrel
            obtain ⟨wi, rfl⟩ : ∃ wi : World, wi = wr := ⟨_, rfl⟩
            have HI := Lib.hid hin; clear hin
            have HR := Lib.hid hrow; clear hrow
            have HUI := Lib.hid hui
            have hsi := Upd.size hui
            clear hui
            have hsb2 := hsb.out
            have bxi := bx1.upd HUI.out (by omega)
            by_cases hlt2 : k < n
            · obtain ⟨b2_, o2_, x21, m21, y21, x22, m22, y22, eq2, q20, q21, q22, q23, RK2⟩ := (G3.out).elt (k := k) (by rw [HN.out]; exact hlt2)
              simp only [Option.some.injEq, Addr.mk.injEq, and_true] at eq2
              obtain ⟨rfl, rfl⟩ := eq2
              have RT2 := Lib.hid RK2; clear RK2
              have HT2 := Lib.hid (HPP.out.2.2.2 k (by rw [HN.out]; exact hlt2))
              obtain ⟨t2, ht2⟩ : ∃ t, taAt l k = t := ⟨_, rfl⟩
              rw [ht2] at q20 q23 RT2 HT2
              have HE2 := Lib.hid ht2; clear ht2
              obtain ⟨A2, hA2⟩ : ∃ A, t2.level = A := ⟨_, rfl⟩
              obtain ⟨B2, hB2⟩ : ∃ A, t2.sum = A := ⟨_, rfl⟩
              rw [hA2] at q20 RT2
              rw [hB2] at q23 RT2
              clear hA2 hB2
              have d20 := Ext.cell hxi q20
              have d21 := Ext.cell hxi q21
              have d22 := Ext.cell hxi q22
              have d23 := Ext.cell hxi q23
              clear q20 q21 q22 q23
              have bx2 := Box.new wi 56 #[.int .i64 A2, .slice x21 m21 y21, .slice x22 m22 y22, .int .i64 B2] rfl
              have ux2 := (Ext.refl wi).alloc (.cells #[.int .i64 A2, .slice x21 m21 y21, .slice x22 m22 y22, .int .i64 B2] 56)
              have bt := bxi.ext ux2
              have bg := b1.ext (hxi.trans ux2)
              have c0 := bg.cell 0 (by simp)
              have f0 := bt.cell 0 (by simp)
              have f1 := bt.cell 1 (by simp)
              have f2 := bt.cell 2 (by simp)
              have f3 := bt.cell 3 (by simp)
              have g0 := bx2.cell 0 (by simp)
              have g1 := bx2.cell 1 (by simp)
              have g2 := bx2.cell 2 (by simp)
              have g3 := bx2.cell 3 (by simp)
              have HTT : Hid (LT k i = ltT T.par s t2 t1) := Lib.hid (by rw [← HLT.out]; unfold ltL; rw [HE1.out, HE2.out])
              rcases hf : ltT T.par s t2 t1 with _ | _
              · have HF := Lib.hid hf
                have HX := Lib.hid (HI.out.skip (HTT.out.trans hf))
                clear hf
                go_wp2_with fail
                refine (lLess_b false _ _ _ _ T s t2 t1 _ HF.out (R1.out.ext (hxi.trans ux2)) (R2.out.ext (hxi.trans ux2)) (RT2.out.ext (hxi.trans ux2)) (RT1.out.ext (hxi.trans ux2)) HPP.out.1 HPP.out.2.1 HT2.out HT1.out).mono ?_
                rintro e w2 ⟨rfl, u2⟩
                go_wp2
                go_roundw
                case rel => exact ⟨k + 1, zs, by omega, by go_num, HX.out, rowIs_ext HR.out (ux2.trans u2), hxi.trans (ux2.trans u2), HUI.out.trans (ux2.trans u2).upd⟩
                case measure => simp [intOf]; omega
              · have HF := Lib.hid hf
                have HX := Lib.hid (HI.out.take HST.out hlt1 hlt2 (HTT.out.trans hf))
                have hup := HI.out.mid.up k hlt2
                have hup2 := HI.out.mid.up i hlt1
                have hhl := hgt_len HST.out hlt2
                clear hf
                go_wp2_with fail
                refine (lLess_b true _ _ _ _ T s t2 t1 _ HF.out (R1.out.ext (hxi.trans ux2)) (R2.out.ext (hxi.trans ux2)) (RT2.out.ext (hxi.trans ux2)) (RT1.out.ext (hxi.trans ux2)) HPP.out.1 HPP.out.2.1 HT2.out HT1.out).mono ?_
                rintro e w2 ⟨rfl, u2⟩
                have HR3 := Lib.hid (rowIs_ext HR.out (ux2.trans u2))
                have hcell := HR3.out.cell (i := i) hlt1
                have hcell2 := HR3.out.cell (i := k) hlt2
                have hfr := HR3.out.frozen i
                have HRN : Hid ((w2.setCell ⟨w.heap.size + 1, i, none⟩ (.int .i64 (imax (ix zs i) (ix zs k + 1)))).rowIs (w.heap.size + 1) 3 n (fun j => .int .i64 (ix (zs.set i (imax (ix zs i) (ix zs k + 1))) j))) := Lib.hid ((HR3.out.set i _).congr (fun j hj => by
                  rw [ix_set, HI.out.mid.len]
                  by_cases e : j = i
                  · subst e; simp [hlt1]
                  · simp [e]))
                have HXX := Lib.hid ((hxi.trans (ux2.trans u2)).setCell (a := ⟨w.heap.size + 1, i, none⟩) (.int .i64 (imax (ix zs i) (ix zs k + 1))) (by have := hsz1.out; show w1.heap.size ≤ w.heap.size + 1; omega))
                have HUU := Lib.hid ((HUI.out.trans (ux2.trans u2).upd).setCell (a := ⟨w.heap.size + 1, i, none⟩) (.int .i64 (imax (ix zs i) (ix zs k + 1))) (fun _ => rfl))
                obtain ⟨X, hX⟩ : ∃ X, ix zs i = X := ⟨_, rfl⟩
                obtain ⟨Y, hY⟩ : ∃ Y, ix zs k = Y := ⟨_, rfl⟩
                rw [hX] at hcell hup2 HX HRN HXX HUU
                rw [hY] at hcell2 hup HX HRN HXX HUU
                clear hX hY c0 f0 f1 f2 f3 g0 g1 g2 g3 d20 d21 d22 d23
                have hwY : IntKind.i64.wrap (Y + 1) = Y + 1 := IntWalk.i64_in _ (by omega)
                go_upto_region 12 with fail
                replace hcell := show w2.drew.cell? _ = _ from hcell
                replace hcell2 := show w2.drew.cell? _ = _ from hcell2
                replace hfr := show w2.drew.frozen? _ = _ from hfr
                refine wp_region_still_tail 13 (by kernel_rfl) (by kernel_rfl) ?_
                change wpStill _ _ w2.drew (fun a' => wpList _ _ _ _ a' w2.drew) _ _
                simp only [List.take_succ_cons, List.take_zero, List.drop_succ_cons, List.drop_zero]
                obtain ⟨wp, hwp⟩ : ∃ wp, wp = w2.drew := ⟨_, rfl⟩
                rw [← hwp] at hcell hcell2 hfr ⊢
                have HWP := Lib.hid hwp; clear hwp
                repeat still_step
                still_call (l1Most_c _ _ _)
                repeat still_step
                refine wpStill_nil ?_
                go_wp2_with fail
                go_roundw
                case rel => exact ⟨k + 1, _, by omega, by go_num, HX.out, by rw [HWP.out]; exact HRN.out, by rw [HWP.out]; exact HXX.out.drew, by rw [HWP.out]; exact HUU.out.trans (Ext.refl _).drew.upd⟩
                case measure => simp [intOf]; omega
            · have hkn : k = n := by omega
              have HIN := Lib.hid (show InH n LT r i n zs by have h := HI.out; rw [hkn] at h; exact h)
              clear hkn
              go_wp2
              go_roundw
              case rel => exact ⟨i + 1, zs, by omega, by go_num, HIN.out.done HST.out hlt1, HR.out, hxi, by omega⟩
              case measure => simp [intOf]; omega
        · have hin : i = n := by omega
          have HMN := Lib.hid (show MidH n LT r n ys by have h := HM.out; rw [hin] at h; exact h)
          clear hin
          go_wp2
          go_roundw
          case rel => exact ⟨r + 1, ys, by omega, by go_num, HMN.out.round, HR.out, hx, hsz⟩
          case measure => simp [intOf]; omega
    · have hrn : r = n := by omega
      have HMN := Lib.hid (show MidH n LT n 0 xs by have h := HM.out; rw [hrn] at h; exact h)
      clear hrn
      go_wp2
      go_ret
      exact ⟨_, xs, rfl, (Own.of_rowIs (lo := 0) (hi := wo.heap.size) HR.out HM.out.len (fun j _ => rfl) (Nat.zero_le _) hsz (by omega)).ints, HM.out.len, HMN.out.end_ HST.out, u0.trans hx⟩
end Go.Proofs.Ytolmmhdeebgglaa
