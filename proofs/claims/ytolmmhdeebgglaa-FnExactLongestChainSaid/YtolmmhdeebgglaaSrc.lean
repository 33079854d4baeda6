/- The tables from which each table of a plan follows: SourcesIn, the spec's and the program's. -/
import Derived.Test.YtolmmhdeebgglaaTg
import Derived.Test.YtolmmhdeebgglaaTh
import Derived.Test.YtolmmhdeebgglaaGrow
import Derived.Test.YtolmmhdeebgglaaHold
namespace Go.Proofs.Ytolmmhdeebgglaa
open Go.RowKit

theorem TabsA.elt {w : World} {ao : Option Addr} {l : List Ta} (h : TabsA w ao l) {k : Nat} (hk : k < l.length) :
    ∃ b o x1 m1 y1 x2 m2 y2, ao = some ⟨b, o, none⟩ ∧ w.cell? ⟨b, o + k * 4, none⟩ = some (.int .i64 (taAt l k).level) ∧ w.cell? ⟨b, o + k * 4 + 1, none⟩ = some (.slice x1 m1 y1) ∧ w.cell? ⟨b, o + k * 4 + 2, none⟩ = some (.slice x2 m2 y2) ∧ w.cell? ⟨b, o + k * 4 + 3, none⟩ = some (.int .i64 (taAt l k).sum) ∧
      TaR w (.agg #[.int .i64 (taAt l k).level, .slice x1 m1 y1, .slice x2 m2 y2, .int .i64 (taAt l k).sum]) (taAt l k) := by
  obtain ⟨b, o, v1, v2, rfl, h0, h1, h2, h3, h4, h5⟩ := h k hk
  have i4 := h4
  have i5 := h5
  obtain ⟨p1, q1, rfl, _⟩ := h4
  obtain ⟨p2, q2, rfl, _⟩ := h5
  exact ⟨b, o, p1, _, q1, p2, _, q2, rfl, h0, h1, h2, h3, ⟨_, _, rfl, i4, i5⟩⟩
theorem rowIs_updS {S : Nat → Prop} {w w' : World} {g t n : Nat} {f : Nat → Value} (h : w.rowIs g t n f) (u : Upd S w w') (hs : ¬ S g) : w'.rowIs g t n f := h.of_block (u.block g h.lt hs)

/-- the tables below n from which a table follows -/
noncomputable def srcTo (par : List Int) (s : List Vr) (l : List Ta) (t : Ta) : Nat → List Int
  | 0 => []
  | n + 1 => if folB par s t (taAt l n) = true then srcTo par s l t n ++ [(n : Int)] else srcTo par s l t n
theorem srcTo_len (par : List Int) (s : List Vr) (l : List Ta) (t : Ta) : ∀ n, (srcTo par s l t n).length ≤ n := by
  intro n
  induction n with
  | zero => simp [srcTo]
  | succ n ih => unfold srcTo; split <;> (try simp) <;> omega
noncomputable def srcG (par : List Int) (s : List Vr) (l : List Ta) : List (List Int) := l.map fun t => srcTo par s l t l.length
noncomputable def srcV (par : List Int) (s : List Vr) (l : List Ta) : List (List Int) := if planB par s l = true then srcG par s l else []
theorem srcG_len (par : List Int) (s : List Vr) (l : List Ta) : (srcG par s l).length = l.length := by simp [srcG]
theorem srcG_at {par : List Int} {s : List Vr} {l : List Ta} {k : Nat} (hk : k < l.length) : rowAt (srcG par s l) k = srcTo par s l (taAt l k) l.length := by
  simp [srcG, rowAt, taAt, List.getD, hk]
theorem srcG_take {par : List Int} {s : List Vr} {l : List Ta} {k : Nat} (hk : k < l.length) : (srcG par s l).take (k + 1) = (srcG par s l).take k ++ [srcTo par s l (taAt l k) l.length] := by
  rw [take_succ_row (by rw [srcG_len]; exact hk), srcG_at hk]

set_option maxRecDepth 100000 in
set_option maxHeartbeats 6400000 in
theorem specSources_c (v1 : Value) (T : Ge) (v2 : Value) (s : List Vr) (v3 : Value) (l : List Ta) (w : World) (h1 : GeR w v1 T) (h2 : Vrs w v2 s) (h3 : Tabs w v3 l) (hw : WfV s) :
    Calls Try.prog 9 #[v1, v2, v3] w (RetGrid (fun v' => .tuple #[v', .bool (planB T.par s l)]) w (srcV T.par s l)) := by
  have HW := Lib.hid hw; clear hw
  have R1 := Lib.hid h1
  have R2 := Lib.hid h2; clear h2
  have R3 := Lib.hid h3
  obtain ⟨y1, rfl, i1⟩ := h1
  clear i1
  obtain ⟨a3, c3, rfl, e1, e2, g3⟩ := h3
  have u0 := (Ext.refl w).alloc (.cells #[y1] 33)
  have b1 := Box.new w 33 #[y1] rfl
  have c1 := b1.cell 0 (by simp)
  have R1 := Lib.hid (R1.out.ext u0)
  have R2 := Lib.hid (R2.out.ext u0)
  have R3 := Lib.hid (R3.out.ext u0)
  have G3 := Lib.hid (TabsA.ext g3 u0); clear g3
  rcases ep : planB T.par s l with _ | _
  · have hV : srcV T.par s l = [] := by simp [srcV, ep]
    rw [hV]
    have HP := Lib.hid ep
    clear hV ep
    go_enter Try.func9, Try.ntmps9
    go_wp2_with fail
    refine (nPlan_b false _ _ _ T s l _ HP.out R1.out R2.out R3.out HW.out).mono ?_
    rintro e w1 ⟨rfl, u1⟩
    go_wp2
    go_ret2
    exact ⟨_, [], rfl, OwnG.nil, u0.trans u1⟩
  have hV : srcV T.par s l = srcG T.par s l := by simp [srcV, ep]
  rw [hV]
  have HP := Lib.hid ep
  have HPP := Lib.hid (planB_true.1 ep)
  have h20 := HPP.out.2.2.1
  clear hV ep
  go_enter Try.func9, Try.ntmps9
  go_wp2_with fail
  refine (nPlan_b true _ _ _ T s l _ HP.out R1.out R2.out R3.out HW.out).mono ?_
  rintro e w1 ⟨rfl, u1⟩
  obtain ⟨n, hn⟩ : ∃ n, l.length = n := ⟨_, rfl⟩
  rw [hn] at e1 h20 ⊢
  have HN := Lib.hid hn; clear hn
  have b1 := b1.ext u1
  have uu := u0.trans u1
  have R1 := Lib.hid (R1.out.ext u1)
  have R2 := Lib.hid (R2.out.ext u1)
  have G3 := Lib.hid (TabsA.ext G3.out u1)
  clear c1 u0 u1 R3
  go_wp2_with fail
  go_loopw [8, 21] (fun r i wr => ∃ (k : Nat) (rvs : List Value), k ≤ n ∧ i = .int .i64 k ∧ GRow w1.heap.size wr.heap.size wr r rvs ((srcG T.par s l).take k) ∧ Ext w1 wr) (fun _ i _ => n - (intOf i).toNat)
  case atStart => exact ⟨0, [], Nat.zero_le _, rfl, GRow.nil, Ext.refl _⟩
  case round =>
    obtain ⟨k, rvs, hk, rfl, hg, hx⟩ := hrel
    obtain ⟨wo, rfl⟩ : ∃ wo : World, wo = wr := ⟨_, rfl⟩
    have HG := Lib.hid hg; clear hg
    by_cases hlt1 : k < n
    · obtain ⟨b1_, o1_, x11, m11, y11, x12, m12, y12, rfl, d10, d11, d12, d13, RK1⟩ := (TabsA.ext G3.out hx).elt (k := k) (by rw [HN.out]; exact hlt1)
      have RT1 := Lib.hid RK1; clear RK1
      have HT1 := Lib.hid (HPP.out.2.2.2 k (by rw [HN.out]; exact hlt1))
      obtain ⟨t1, ht1⟩ : ∃ t, taAt l k = t := ⟨_, rfl⟩
      rw [ht1] at d10 d13 RT1 HT1
      have HE1 := Lib.hid ht1; clear ht1
      obtain ⟨A1, hA1⟩ : ∃ A, t1.level = A := ⟨_, rfl⟩
      obtain ⟨B1, hB1⟩ : ∃ A, t1.sum = A := ⟨_, rfl⟩
      rw [hA1] at d10 RT1
      rw [hB1] at d13 RT1
      clear hA1 hB1
      have bx1 := Box.new wo 56 #[.int .i64 A1, .slice x11 m11 y11, .slice x12 m12 y12, .int .i64 B1] rfl
      have ux1 := (Ext.refl wo).alloc (.cells #[.int .i64 A1, .slice x11 m11 y11, .slice x12 m12 y12, .int .i64 B1] 56)
      have hs0 := hx.size
      go_wp2_with fail
      obtain ⟨wb, hwb⟩ : ∃ wb, wb = wo.alloc (.cells #[.int .i64 A1, .slice x11 m11 y11, .slice x12 m12 y12, .int .i64 B1] 56) := ⟨_, rfl⟩
      rw [← hwb] at bx1 ux1 ⊢
      have hsb : Hid (wb.heap.size = wo.heap.size + 1) := Lib.hid (by rw [hwb]; simp)
      clear hwb d10 d11 d12 d13
      go_loopw [11, 27] (fun r i wr => ∃ m : Nat, m ≤ n ∧ i = .int .i64 m ∧ IRow wb.heap.size wr r (srcTo T.par s l t1 m) ∧ Ext wb wr) (fun _ i _ => n - (intOf i).toNat)
      case atStart => exact ⟨0, Nat.zero_le _, rfl, IRow.nil, Ext.refl _⟩
      case round =>
        obtain ⟨m, hm, rfl, hr, hy⟩ := hrel
        obtain ⟨wi, rfl⟩ : ∃ wi : World, wi = wr := ⟨_, rfl⟩
        have HI := Lib.hid hr; clear hr
        have hxy := (hx.trans ux1).trans hy
        by_cases hlt2 : m < n
        · obtain ⟨b2_, o2_, x21, m21, y21, x22, m22, y22, eq2, d20, d21, d22, d23, RK2⟩ := (TabsA.ext G3.out hxy).elt (k := m) (by rw [HN.out]; exact hlt2)
          simp only [Option.some.injEq, Addr.mk.injEq, and_true] at eq2
          obtain ⟨rfl, rfl⟩ := eq2
          have RT2 := Lib.hid RK2; clear RK2
          have HT2 := Lib.hid (HPP.out.2.2.2 m (by rw [HN.out]; exact hlt2))
          obtain ⟨t2, ht2⟩ : ∃ t, taAt l m = t := ⟨_, rfl⟩
          rw [ht2] at d20 d23 RT2 HT2
          have HE2 := Lib.hid ht2; clear ht2
          obtain ⟨A2, hA2⟩ : ∃ A, t2.level = A := ⟨_, rfl⟩
          obtain ⟨B2, hB2⟩ : ∃ A, t2.sum = A := ⟨_, rfl⟩
          rw [hA2] at d20 RT2
          rw [hB2] at d23 RT2
          clear hA2 hB2
          have bx2 := Box.new wi 56 #[.int .i64 A2, .slice x21 m21 y21, .slice x22 m22 y22, .int .i64 B2] rfl
          have ux2 := (Ext.refl wi).alloc (.cells #[.int .i64 A2, .slice x21 m21 y21, .slice x22 m22 y22, .int .i64 B2] 56)
          have bt := bx1.ext (hy.trans ux2)
          have bg := b1.ext (hxy.trans ux2)
          have c0 := bg.cell 0 (by simp)
          have f0 := bt.cell 0 (by simp)
          have f1 := bt.cell 1 (by simp)
          have f2 := bt.cell 2 (by simp)
          have f3 := bt.cell 3 (by simp)
          have g0 := bx2.cell 0 (by simp)
          have g1 := bx2.cell 1 (by simp)
          have g2 := bx2.cell 2 (by simp)
          have g3 := bx2.cell 3 (by simp)
          have HS : Hid (srcTo T.par s l t1 (m + 1) = if folB T.par s t1 t2 = true then srcTo T.par s l t1 m ++ [(m : Int)] else srcTo T.par s l t1 m) := Lib.hid (by simp only [srcTo]; rw [HE2.out])
          rcases hf : folB T.par s t1 t2 with _ | _
          · have HF := Lib.hid hf
            have HS2 : Hid (srcTo T.par s l t1 (m + 1) = srcTo T.par s l t1 m) := Lib.hid (by rw [HS.out, hf]; simp)
            clear hf
            go_wp2_with fail
            refine (lFollows_b false _ _ _ _ T s t1 t2 _ HF.out (R1.out.ext (hxy.trans ux2)) (R2.out.ext (hxy.trans ux2)) (RT1.out.ext (ux1.trans (hy.trans ux2))) (RT2.out.ext ux2) HPP.out.1 HPP.out.2.1 HT1.out HT2.out).mono ?_
            rintro e w2 ⟨rfl, u2⟩
            go_wp2
            go_roundw
            case rel => exact ⟨m + 1, by omega, by go_num, by rw [HS2.out]; exact HI.out.ext (ux2.trans u2), hy.trans (ux2.trans u2)⟩
            case measure => simp [intOf]; omega
          · have HF := Lib.hid hf
            have HS2 : Hid (srcTo T.par s l t1 (m + 1) = srcTo T.par s l t1 m ++ [(m : Int)]) := Lib.hid (by rw [HS.out, hf]; simp)
            clear hf
            go_wp2_with fail
            refine (lFollows_b true _ _ _ _ T s t1 t2 _ HF.out (R1.out.ext (hxy.trans ux2)) (R2.out.ext (hxy.trans ux2)) (RT1.out.ext (ux1.trans (hy.trans ux2))) (RT2.out.ext ux2) HPP.out.1 HPP.out.2.1 HT1.out HT2.out).mono ?_
            rintro e w2 ⟨rfl, u2⟩
            have hown := HI.out.ext ((ux2.trans u2).alloc (.cells #[.int .i64 m] 3))
            have HOWN := Lib.hid hown
            obtain ⟨L, hL⟩ : ∃ L, (srcTo T.par s l t1 m).length = L := ⟨_, rfl⟩
            have hL2 := srcTo_len T.par s l t1 m
            unfold IRow at hown
            rw [hL] at hown hL2
            have HOW2 := Lib.hid hown; clear hown
            have HL := Lib.hid hL; clear hL
            have hs1 := hy.size
            have hs2 := (ux2.trans u2).size
            clear c0 f0 f1 f2 f3 g0 g1 g2 g3 d20 d21 d22 d23
            go_wp2_with (at_builtin; go_loud (refine app1 _ rfl _ _ 22 3 rfl (.int .i64 0) 8 Try.underlying22 info_int rfl wb.heap.size _ L _ rfl HOW2.out w2.heap.size 1 3 (.int .i64 m) rfl (Box.new _ _ _ rfl) rfl (by omega) (by omega) (by simp; omega) ?_))
            intro g cp w3 hown3 hgrow hat hlt3
            have HX3 := Lib.hid (HOWN.out.grew ((hy.trans (ux2.trans u2)).alloc _) (Nat.le_refl _) hgrow)
            have HO3 := Lib.hid hown3; clear hown3
            clear hgrow
            go_wp2
            go_roundw
            case rel => exact ⟨m + 1, by omega, by go_num, by rw [HS2.out]; exact IRow.push (by rw [HL.out]; exact HO3.out), HX3.out⟩
            case measure => simp [intOf]; omega
        · have hml : m = n := by omega
          have HML := Lib.hid hml; clear hml
          have hfr := HI.out.form
          have HI2 := Lib.hid (show IRow wb.heap.size wi _ (srcTo T.par s l t1 l.length) from by rw [HN.out, ← HML.out]; exact HI.out)
          obtain ⟨ao', cap', hfe⟩ := hfr
          subst hfe
          obtain ⟨Q, hQ⟩ : ∃ Q, (srcTo T.par s l t1 m).length = Q := ⟨_, rfl⟩
          rw [hQ] at HI2 ⊢
          clear HI hQ
          have hsy := hy.size
          have HLT : Hid (((srcG T.par s l).take k).length = k) := Lib.hid (by simp [srcG_len, HN.out]; omega)
          have G1 := Lib.hid (HG.out.ext (ux1.trans hy))
          have hown := (G1.out.ext ((Ext.refl wi).alloc (.cells #[.slice ao' Q cap'] 22))).own
          rw [HLT.out] at hown
          have HOWN := Lib.hid hown; clear hown
          have hsz1 := ux1.size
          have hsb2 := hsb.out
          go_wp2_with (at_builtin; go_loud (refine app1 _ rfl _ _ 30 22 rfl (.slice none 0 0) 24 Try.underlying30 info_ints rfl w1.heap.size _ k rvs rfl HOWN.out wi.heap.size 1 22 (.slice ao' Q cap') rfl (Box.new _ _ _ rfl) rfl (by omega) (by omega) (by simp; omega) ?_))
          intro g cp w3 hown3 hgrow hat hlt3
          have e1 : Ext wi (wi.alloc (.cells #[.slice ao' Q cap'] 22)) := (Ext.refl wi).alloc _
          have gn := ((G1.out.ext e1).mono (hi' := wb.heap.size) (by omega)).push (hi' := w3.heap.size) (x := .slice ao' Q cap') (r := srcTo T.par s l t1 l.length) (by omega)
            (((HI2.out.own (Nat.le_refl _)).ext e1).mono (Nat.le_refl _) (by have := hgrow.size; simp at this; omega)) (by have := hgrow.size; simp at this; omega) hgrow (by rw [HLT.out]; exact hown3)
          have hx3 := (G1.out.ext e1).grew ((hx.trans (ux1.trans hy)).trans e1) (Nat.le_refl _) hgrow
          have GN := Lib.hid gn; clear gn
          have HX3 := Lib.hid hx3; clear hx3
          have HST := Lib.hid (srcG_take (par := T.par) (s := s) (l := l) (k := k) (by rw [HN.out]; exact hlt1))
          rw [HE1.out] at HST
          clear hgrow hown3
          go_wp2
          go_roundw
          case rel => exact ⟨k + 1, _, by omega, by go_num, by rw [HST.out]; exact GN.out, HX3.out⟩
          case measure => simp [intOf]; omega
    · have hkk : (srcG T.par s l).take k = srcG T.par s l := List.take_of_length_le (by rw [srcG_len, HN.out]; omega)
      rw [hkk] at HG
      have hsu := uu.size
      go_wp2
      go_ret2
      exact ⟨_, rvs, rfl, (HG.out.ownG (Nat.le_refl _) (Nat.le_refl _)).mono hsu (Nat.le_refl _), uu.trans hx⟩

theorem Upd.more {S S' : Nat → Prop} {w w' w'' : World} (h : Upd S w w') (k : Upd S' w' w'') (hs : ∀ b, S' b → S b ∨ w.heap.size ≤ b) : Upd S w w'' :=
  ⟨k.os.trans h.os, k.tape.trans h.tape, k.output.trans h.output, Nat.le_trans (Upd.size h) k.size,
    fun i hi hn => (k.block i (Nat.lt_of_lt_of_le hi (Upd.size h)) (fun s => by rcases hs i s with h1 | h1; exact hn h1; omega)).trans (Upd.block h i hi hn)⟩

set_option maxRecDepth 100000 in
set_option maxHeartbeats 6400000 in
theorem implSources_c (v1 : Value) (T : Ge) (v2 : Value) (s : List Vr) (v3 : Value) (l : List Ta) (w : World) (h1 : GeR w v1 T) (h2 : Vrs w v2 s) (h3 : Tabs w v3 l) (hw : WfV s) :
    Calls Try.prog 13 #[v1, v2, v3] w (RetGrid (fun v' => .tuple #[v', .bool (planB T.par s l)]) w (srcV T.par s l)) := by
  have HW := Lib.hid hw; clear hw
  have R1 := Lib.hid h1
  have R2 := Lib.hid h2; clear h2
  have R3 := Lib.hid h3
  obtain ⟨y1, rfl, i1⟩ := h1
  clear i1
  obtain ⟨a3, c3, rfl, e1, e2, g3⟩ := h3
  have u0 := (Ext.refl w).alloc (.cells #[y1] 33)
  have b1 := Box.new w 33 #[y1] rfl
  have c1 := b1.cell 0 (by simp)
  have R1 := Lib.hid (R1.out.ext u0)
  have R2 := Lib.hid (R2.out.ext u0)
  have R3 := Lib.hid (R3.out.ext u0)
  have G3 := Lib.hid (TabsA.ext g3 u0); clear g3
  rcases ep : planB T.par s l with _ | _
  · have hV : srcV T.par s l = [] := by simp [srcV, ep]
    rw [hV]
    have HP := Lib.hid ep
    clear hV ep
    go_enter Try.func13, Try.ntmps13
    go_wp2_with fail
    refine (isPlan_b false _ _ _ T s l _ HP.out R1.out R2.out R3.out HW.out).mono ?_
    rintro e w1 ⟨rfl, u1⟩
    go_wp2
    go_ret2
    exact ⟨_, [], rfl, OwnG.nil, u0.trans u1⟩
  have hV : srcV T.par s l = srcG T.par s l := by simp [srcV, ep]
  rw [hV]
  have HP := Lib.hid ep
  have HPP := Lib.hid (planB_true.1 ep)
  have h20 := HPP.out.2.2.1
  clear hV ep
  go_enter Try.func13, Try.ntmps13
  go_wp2_with fail
  refine (isPlan_b true _ _ _ T s l _ HP.out R1.out R2.out R3.out HW.out).mono ?_
  rintro e w1 ⟨rfl, u1⟩
  obtain ⟨n, hn⟩ : ∃ n, l.length = n := ⟨_, rfl⟩
  rw [hn] at e1 h20 ⊢
  have HN := Lib.hid hn; clear hn
  have b1 := b1.ext u1
  have uu := u0.trans u1
  have R1 := Lib.hid (R1.out.ext u1)
  have R2 := Lib.hid (R2.out.ext u1)
  have G3 := Lib.hid (TabsA.ext G3.out u1)
  clear c1 u0 u1 R3
  have hmk := run_make_row' (P := Try.prog) 30 22 (.slice none 0 0) 24 Try.underlying30 info_ints rfl .i64 .i64 n (by omega) (by omega)
  go_wp2_with fail
  go_loopw [23] (fun i wr => ∃ (k : Nat) (rvs : List Value), k ≤ n ∧ i = .int .i64 k ∧ Hid (rvs.length = k) ∧ wr.rowIs w1.heap.size 22 n (fun j => if j < k then rvAt rvs j else .slice none 0 0) ∧
    (∀ j, j < k → Own (w1.heap.size + 1) wr.heap.size wr (rvAt rvs j) (rowAt (srcG T.par s l) j)) ∧
    (∀ i j, i < k → j < k → i ≠ j → rowAt (srcG T.par s l) i ≠ [] → rowAt (srcG T.par s l) j ≠ [] → blk (rvAt rvs i) ≠ blk (rvAt rvs j)) ∧ w1.heap.size + 1 ≤ wr.heap.size ∧ Ext w1 wr) (fun i _ => n - (intOf i).toNat)
  case atStart => exact ⟨0, [], Nat.zero_le _, rfl, Lib.hid rfl, (World.rowIs_made _ _ _ _).congr (fun j _ => by simp), fun j hj => by omega, fun i j hi => by omega, by simp, (Ext.refl _).alloc _⟩
  case round =>
    clear hmk
    obtain ⟨k, rvs, hk, rfl, hl, hrow, hown, hd, hsz, hx⟩ := hrel
    obtain ⟨wo, rfl⟩ : ∃ wo : World, wo = wr := ⟨_, rfl⟩
    have HRW := Lib.hid hrow; clear hrow
    have HOW := Lib.hid hown; clear hown
    have HDF := Lib.hid hd; clear hd
    have HLN := Lib.hid hl; clear hl
    by_cases hlt1 : k < n
    · obtain ⟨b1_, o1_, x11, m11, y11, x12, m12, y12, rfl, q10, q11, q12, q13, RK1⟩ := (G3.out).elt (k := k) (by rw [HN.out]; exact hlt1)
      have RT1 := Lib.hid RK1; clear RK1
      have HT1 := Lib.hid (HPP.out.2.2.2 k (by rw [HN.out]; exact hlt1))
      obtain ⟨t1, ht1⟩ : ∃ t, taAt l k = t := ⟨_, rfl⟩
      rw [ht1] at q10 q13 RT1 HT1
      have HE1 := Lib.hid ht1; clear ht1
      obtain ⟨A1, hA1⟩ : ∃ A, t1.level = A := ⟨_, rfl⟩
      obtain ⟨B1, hB1⟩ : ∃ A, t1.sum = A := ⟨_, rfl⟩
      rw [hA1] at q10 RT1
      rw [hB1] at q13 RT1
      clear hA1 hB1
      have d10 := Ext.cell hx q10
      have d11 := Ext.cell hx q11
      have d12 := Ext.cell hx q12
      have d13 := Ext.cell hx q13
      clear q10 q11 q12 q13
      have bx1 := Box.new wo 56 #[.int .i64 A1, .slice x11 m11 y11, .slice x12 m12 y12, .int .i64 B1] rfl
      have ux1 := (Ext.refl wo).alloc (.cells #[.int .i64 A1, .slice x11 m11 y11, .slice x12 m12 y12, .int .i64 B1] 56)
      go_wp2_with fail
      obtain ⟨wb, hwb⟩ : ∃ wb, wb = wo.alloc (.cells #[.int .i64 A1, .slice x11 m11 y11, .slice x12 m12 y12, .int .i64 B1] 56) := ⟨_, rfl⟩
      rw [← hwb] at bx1 ux1 ⊢
      have hsb : Hid (wb.heap.size = wo.heap.size + 1) := Lib.hid (by rw [hwb]; simp)
      clear hwb d10 d11 d12 d13
      go_loopw [30] (fun i wr => ∃ (m : Nat) (r : Value), m ≤ n ∧ i = .int .i64 m ∧ wr.rowIs w1.heap.size 22 n (fun j => if j < k then rvAt rvs j else if j = k then r else .slice none 0 0) ∧ IRow wb.heap.size wr r (srcTo T.par s l t1 m) ∧
        (∀ j, j < k → Own (w1.heap.size + 1) wb.heap.size wr (rvAt rvs j) (rowAt (srcG T.par s l) j)) ∧ Ext w1 wr ∧ Upd (fun b => b = w1.heap.size) wb wr) (fun i _ => n - (intOf i).toNat)
      case atStart => exact ⟨0, .slice none 0 0, Nat.zero_le _, rfl, (rowIs_ext HRW.out ux1).congr (fun j _ => by by_cases e : j < k <;> simp [e]), IRow.nil, fun j hj => ((HOW.out j hj).ext ux1).mono (Nat.le_refl _) ux1.size, hx.trans ux1, Upd.refl _⟩
      case round =>
        obtain ⟨m, r, hm, rfl, hrow, hr, hown, hxi, hui⟩ := hrel
        obtain ⟨wi, rfl⟩ : ∃ wi : World, wi = wr := ⟨_, rfl⟩
        have HI := Lib.hid hr; clear hr
        have HR := Lib.hid hrow; clear hrow
        have HO := Lib.hid hown; clear hown
        have HUI := Lib.hid hui
        have hsi := Upd.size hui
        clear hui
        have hsb2 := hsb.out
        have bxi := bx1.upd HUI.out (by omega)
        clear hsb2
        by_cases hlt2 : m < n
        · obtain ⟨b2_, o2_, x21, m21, y21, x22, m22, y22, eq2, q20, q21, q22, q23, RK2⟩ := (G3.out).elt (k := m) (by rw [HN.out]; exact hlt2)
          simp only [Option.some.injEq, Addr.mk.injEq, and_true] at eq2
          obtain ⟨rfl, rfl⟩ := eq2
          have RT2 := Lib.hid RK2; clear RK2
          have HT2 := Lib.hid (HPP.out.2.2.2 m (by rw [HN.out]; exact hlt2))
          obtain ⟨t2, ht2⟩ : ∃ t, taAt l m = t := ⟨_, rfl⟩
          rw [ht2] at q20 q23 RT2 HT2
          have HE2 := Lib.hid ht2; clear ht2
          obtain ⟨A2, hA2⟩ : ∃ A, t2.level = A := ⟨_, rfl⟩
          obtain ⟨B2, hB2⟩ : ∃ A, t2.sum = A := ⟨_, rfl⟩
          rw [hA2] at q20 RT2
          rw [hB2] at q23 RT2
          clear hA2 hB2
          have d20 := Ext.cell hxi q20
          have d21 := Ext.cell hxi q21
          have d22 := Ext.cell hxi q22
          have d23 := Ext.cell hxi q23
          clear q20 q21 q22 q23
          have bx2 := Box.new wi 56 #[.int .i64 A2, .slice x21 m21 y21, .slice x22 m22 y22, .int .i64 B2] rfl
          have ux2 := (Ext.refl wi).alloc (.cells #[.int .i64 A2, .slice x21 m21 y21, .slice x22 m22 y22, .int .i64 B2] 56)
          have bt := bxi.ext ux2
          have bg := b1.ext (hxi.trans ux2)
          have c0 := bg.cell 0 (by simp)
          have f0 := bt.cell 0 (by simp)
          have f1 := bt.cell 1 (by simp)
          have f2 := bt.cell 2 (by simp)
          have f3 := bt.cell 3 (by simp)
          have g0 := bx2.cell 0 (by simp)
          have g1 := bx2.cell 1 (by simp)
          have g2 := bx2.cell 2 (by simp)
          have g3 := bx2.cell 3 (by simp)
          have HS : Hid (srcTo T.par s l t1 (m + 1) = if folB T.par s t1 t2 = true then srcTo T.par s l t1 m ++ [(m : Int)] else srcTo T.par s l t1 m) := Lib.hid (by simp only [srcTo]; rw [HE2.out])
          rcases hf : folB T.par s t1 t2 with _ | _
          · have HF := Lib.hid hf
            have HS2 : Hid (srcTo T.par s l t1 (m + 1) = srcTo T.par s l t1 m) := Lib.hid (by rw [HS.out, hf]; simp)
            clear hf
            go_wp2_with fail
            refine (followsFrom_b false _ _ _ _ T s t1 t2 _ HF.out (R1.out.ext (hxi.trans ux2)) (R2.out.ext (hxi.trans ux2)) (RT1.out.ext (hxi.trans ux2)) (RT2.out.ext (hxi.trans ux2)) HPP.out.1 HPP.out.2.1 HT1.out HT2.out).mono ?_
            rintro e w2 ⟨rfl, u2⟩
            go_wp2
            go_roundw
            case rel => exact ⟨m + 1, r, by omega, by go_num, rowIs_ext HR.out (ux2.trans u2), by rw [HS2.out]; exact HI.out.ext (ux2.trans u2), fun j hj => (HO.out j hj).ext (ux2.trans u2), hxi.trans (ux2.trans u2), HUI.out.trans (ux2.trans u2).upd⟩
            case measure => simp [intOf]; omega
          · have HF := Lib.hid hf
            have HS2 : Hid (srcTo T.par s l t1 (m + 1) = srcTo T.par s l t1 m ++ [(m : Int)]) := Lib.hid (by rw [HS.out, hf]; simp)
            clear hf
            go_wp2_with fail
            refine (followsFrom_b true _ _ _ _ T s t1 t2 _ HF.out (R1.out.ext (hxi.trans ux2)) (R2.out.ext (hxi.trans ux2)) (RT1.out.ext (hxi.trans ux2)) (RT2.out.ext (hxi.trans ux2)) HPP.out.1 HPP.out.2.1 HT1.out HT2.out).mono ?_
            rintro e w2 ⟨rfl, u2⟩
            have uu2 := ux2.trans u2
            have ua := uu2.alloc (.cells #[.int .i64 m] 3)
            have hcell : w2.cell? ⟨w1.heap.size, k, none⟩ = some r := by
              have := (rowIs_ext HR.out uu2).cell (i := k) hlt1
              simpa using this
            have hown := HI.out.ext ua
            have HOWN := Lib.hid hown
            obtain ⟨L, hL⟩ : ∃ L, (srcTo T.par s l t1 m).length = L := ⟨_, rfl⟩
            have hL2 := srcTo_len T.par s l t1 m
            unfold IRow at hown
            rw [hL] at hown hL2
            have HOW2 := Lib.hid hown; clear hown
            have HL := Lib.hid hL; clear hL
            have hs2 := uu2.size
            have HRA := Lib.hid (rowIs_ext HR.out ua)
            clear c0 f0 f1 f2 f3 g0 g1 g2 g3 d20 d21 d22 d23
            go_wp2_with (at_builtin; go_loud (refine app1 _ rfl _ _ 22 3 rfl (.int .i64 0) 8 Try.underlying22 info_int rfl wb.heap.size _ L _ rfl HOW2.out w2.heap.size 1 3 (.int .i64 m) rfl (Box.new _ _ _ rfl) rfl (by omega) (by omega) (by simp; omega) ?_))
            intro g cp w3 hown3 hgrow hat hlt3
            have hsb3 := hsb.out
            have hng : ¬ (r.ownBlock = some w1.heap.size) := fun e => by have := (HOWN.out.blk e).1; omega
            have hrow3 := rowIs_updS HRA.out (Upd.of_grown hgrow) hng
            have hcell3 := hrow3.cell (i := k) hlt1
            have hfr3 := hrow3.frozen k
            have HR3 := Lib.hid hrow3; clear hrow3
            have HX3 := Lib.hid ((hxi.trans ua).of_upd (Upd.of_grown hgrow) (fun b hb => by have := (HOWN.out.blk hb).1; omega))
            have HU3 := Lib.hid ((HUI.out.trans ua.upd).more (Upd.of_grown hgrow) (fun b hb => .inr (HOWN.out.blk hb).1))
            have HOO : Hid (∀ j, j < k → Own (w1.heap.size + 1) wb.heap.size w3 (rvAt rvs j) (rowAt (srcG T.par s l) j)) := Lib.hid (fun j hj => ((HO.out j hj).ext ua).away (Upd.of_grown hgrow) (fun b hb => .inr (HOWN.out.blk hb).1))
            have HO3 := Lib.hid hown3; clear hown3
            have hlo : Hid (w1.heap.size < wb.heap.size) := Lib.hid (by omega)
            clear hgrow hsb3
            go_wp2
            go_roundw
            case rel =>
              refine ⟨m + 1, .slice (some ⟨g, 0, none⟩) (L + 1) cp, by omega, by go_num, (HR3.out.set k _).congr (fun j hj => ?_), by rw [HS2.out]; exact (IRow.push (by rw [HL.out]; exact HO3.out)).put hlo.out _, fun j hj => (HOO.out j hj).put_away _ _ (.inl (Nat.lt_succ_self _)), HX3.out.setCell _ (Nat.le_refl _), HU3.out.setCell _ (fun _ => rfl)⟩
              by_cases e : j = k
              · subst e; simp
              · simp [e]
            case measure => simp [intOf]; omega
        · have hml : m = n := by omega
          have HML := Lib.hid hml; clear hml
          have HI2 := Lib.hid (show IRow wb.heap.size wi r (rowAt (srcG T.par s l) k) from by rw [srcG_at (by rw [HN.out]; exact hlt1), HE1.out, HN.out, ← HML.out]; exact HI.out)
          clear HI
          go_wp2
          go_roundw
          case rel =>
            have hsb2 := hsb.out
            have hold : ∀ j, j < k → rvAt (rvs ++ [r]) j = rvAt rvs j := fun j hj => rvAt_append_left (by rw [HLN.out]; exact hj)
            have hnew : rvAt (rvs ++ [r]) k = r := by
              have := @rvAt_append_len rvs r; rwa [HLN.out] at this
            have ho := HI2.out.own (Nat.le_refl _)
            refine ⟨k + 1, rvs ++ [r], by omega, by go_num, Lib.hid (by rw [List.length_append, HLN.out]; rfl), HR.out.congr (fun j hj => ?_), fun j hj => ?_, fun i j hi hj hij hri hrj => ?_, by omega, hxi⟩
            · by_cases e : j = k
              · subst e; simp [hnew]
              · by_cases e2 : j < k
                · have : j < k + 1 := by omega
                  simp [e2, this, hold j e2]
                · have : ¬ j < k + 1 := by omega
                  simp [e, e2, this]
            · by_cases e : j = k
              · subst e; rw [hnew]; exact ho.mono (by omega) (Nat.le_refl _)
              · rw [hold j (by omega)]; exact (HO.out j (by omega)).mono (Nat.le_refl _) hsi
            · by_cases ei : i = k
              · subst ei
                rw [hnew, hold j (by omega)]
                have a1 := ho.range hri
                have a2 := (HO.out j (by omega)).range hrj
                omega
              · rw [hold i (by omega)]
                by_cases ej : j = k
                · subst ej
                  rw [hnew]
                  have a1 := ho.range hrj
                  have a2 := (HO.out i (by omega)).range hri
                  omega
                · rw [hold j (by omega)]; exact HDF.out i j (by omega) (by omega) hij hri hrj
          case measure => simp [intOf]; omega
    · have hkl : k = n := by omega
      have HKL := Lib.hid hkl; clear hkl
      have hsu := uu.size
      go_wp2
      go_ret2
      have hgl := (srcG_len T.par s l).trans HN.out
      refine ⟨_, rvs, rfl, ⟨some ⟨w1.heap.size, 0, none⟩, n, by rw [hgl]; rfl, by rw [hgl]; exact Nat.le_refl _, by omega, by rw [HLN.out, hgl]; exact HKL.out, ?_, fun j hj => (HOW.out j (by rw [hgl] at hj; rw [HKL.out]; exact hj)).mono (by omega) (Nat.le_refl _), fun i j hi hj => HDF.out i j (by rw [hgl] at hi; rw [HKL.out]; exact hi) (by rw [hgl] at hj; rw [HKL.out]; exact hj)⟩, uu.trans hx⟩
      obtain ⟨c, hb, hs, hc⟩ := HRW.out
      exact .inr ⟨w1.heap.size, 0, c, rfl, hsu, by omega, hb, fun j hj => by rw [hgl] at hj; rw [Nat.zero_add, hc j hj]; show some (if j < k then rvAt rvs j else Value.slice none 0 0) = _; rw [if_pos (by rw [HKL.out]; exact hj)]⟩
theorem sum_lens_le (c : Nat) : ∀ (xss : List (List Int)), (∀ x ∈ xss, x.length ≤ c) → (xss.map List.length).sum ≤ xss.length * c
  | [], _ => by simp
  | a :: t, h => by
    have h1 := sum_lens_le c t (fun x hx => h x (by simp [hx]))
    have h2 := h a (by simp)
    simp only [List.map_cons, List.sum_cons, List.length_cons, Nat.add_mul]
    omega
theorem srcV_small (par : List Int) (s : List Vr) (l : List Ta) : Small (srcV par s l) := by
  by_cases hp : planB par s l = true
  · have h := (planB_true.1 hp).2.2.1
    have e : srcV par s l = srcG par s l := by simp [srcV, hp]
    rw [e]
    have h1 := sum_lens_le 20 (srcG par s l) (fun x hx => by
      obtain ⟨t, _, rfl⟩ := List.mem_map.1 hx
      exact Nat.le_trans (srcTo_len par s l t l.length) h)
    rw [srcG_len] at h1
    have h2 : l.length * 20 ≤ 20 * 20 := Nat.mul_le_mul_right 20 h
    exact Small.of_bound (by rw [srcG_len]; omega)
  · have e : srcV par s l = [] := by simp [srcV, hp]
    rw [e]
    exact Small.of_bound (by simp)
end Go.Proofs.Ytolmmhdeebgglaa
