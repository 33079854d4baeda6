/- Valid plans: the spec's and the program's checks. -/
import Derived.Test.YtolmmhdeebgglaaTd
namespace Go.Proofs.Ytolmmhdeebgglaa
open Go.RowKit

set_option maxHeartbeats 400000 in
theorem nInput_b (b : Bool) (v1 v2 : Value) (T : Ge) (s : List Vr) (w : World) (hb : (geoB T.par && schB s) = b) (h1 : GeR w v1 T) (h2 : Vrs w v2 s) (hw : WfV s) :
    Calls Try.prog 67 #[v1, v2] w fun e w' => e = .returned (.bool b) ∧ Ext w w' := by
  have HW := Lib.hid hw; clear hw
  have R1 := Lib.hid h1
  have R2 := Lib.hid h2; clear h2
  obtain ⟨y1, rfl, i1⟩ := h1
  clear i1
  have u0 := (Ext.refl w).alloc (.cells #[y1] 33)
  have b1 := Box.new w 33 #[y1] rfl
  have c1 := b1.cell 0 (by simp)
  rcases eg : geoB T.par with _ | _
  · have HG := Lib.hid eg
    rw [eg] at hb
    have HB := Lib.hid hb; clear hb eg
    go_enter Try.func67, Try.ntmps67
    go_wp2_with fail
    refine (gGood_b false _ T _ HG.out (R1.out.ext u0)).mono ?_
    rintro e w1 ⟨rfl, u1⟩
    go_wp2
    go_ret
    exact ⟨ret_bool (by have hx := HB.out; first | exact hx | simpa using hx), u0.trans u1⟩
  · have HG := Lib.hid eg
    rw [eg] at hb
    rw [Bool.true_and] at hb
    have HB := Lib.hid hb; clear hb eg
    go_enter Try.func67, Try.ntmps67
    go_wp2_with fail
    refine (gGood_b true _ T _ HG.out (R1.out.ext u0)).mono ?_
    rintro e w1 ⟨rfl, u1⟩
    go_wp2_with fail
    refine (sGood_b b _ s _ HB.out (R2.out.ext (u0.trans u1)) HW.out).mono ?_
    rintro e w2 ⟨rfl, u2⟩
    go_wp2
    go_ret
    exact ⟨rfl, (u0.trans u1).trans u2⟩
set_option maxHeartbeats 800000 in
theorem areTabled_b (b : Bool) (v1 v2 v3 : Value) (T : Ge) (s : List Vr) (t : Ta) (w : World) (hb : allB T.par s t = b) (h1 : GeR w v1 T) (h2 : Vrs w v2 s) (h3 : TaR w v3 t) (hw : WfV s) :
    Calls Try.prog 61 #[v1, v2, v3] w fun e w' => e = .returned (.bool b) ∧ Ext w w' := by
  have HW := Lib.hid hw; clear hw
  have R1 := Lib.hid h1
  have R2 := Lib.hid h2; clear h2
  have R3 := Lib.hid h3
  obtain ⟨y1, rfl, i1⟩ := h1
  clear i1
  obtain ⟨x1, x2, rfl, i1, i2⟩ := h3
  clear i1 i2
  obtain ⟨A, hA⟩ : ∃ A, t.level = A := ⟨_, rfl⟩
  obtain ⟨B, hB⟩ : ∃ B, t.sum = B := ⟨_, rfl⟩
  rw [hA, hB] at R3
  rw [hA, hB]
  clear hA hB
  have u0 := ((Ext.refl w).alloc (.cells #[y1] 33)).alloc (.cells #[.int .i64 A, x1, x2, .int .i64 B] 56)
  have b1 := (Box.new w 33 #[y1] rfl).alloc (.cells #[.int .i64 A, x1, x2, .int .i64 B] 56)
  have b2 := Box.new (w.alloc (.cells #[y1] 33)) 56 #[.int .i64 A, x1, x2, .int .i64 B] (b := w.heap.size + 1) (by simp)
  have c1 := b1.cell 0 (by simp)
  rcases eg : geoB T.par with _ | _
  · have HG := Lib.hid eg
    have HB : Hid (b = false) := Lib.hid (by rw [← hb]; simp [allB, eg])
    clear hb eg
    go_enter Try.func61, Try.ntmps61
    go_wp2_with fail
    refine (IsGeo_b false _ T _ HG.out (R1.out.ext u0)).mono ?_
    rintro e w1 ⟨rfl, u1⟩
    go_wp2
    go_ret
    exact ⟨ret_bool HB.out.symm, u0.trans u1⟩
  rcases es : schB s with _ | _
  · have HG := Lib.hid eg
    have HS := Lib.hid es
    have HB : Hid (b = false) := Lib.hid (by rw [← hb]; simp [allB, es])
    clear hb eg es
    go_enter Try.func61, Try.ntmps61
    go_wp2_with fail
    refine (IsGeo_b true _ T _ HG.out (R1.out.ext u0)).mono ?_
    rintro e w1 ⟨rfl, u1⟩
    go_wp2_with fail
    refine (IsSchema_b false _ s _ HS.out (R2.out.ext (u0.trans u1)) HW.out).mono ?_
    rintro e w2 ⟨rfl, u2⟩
    go_wp2
    go_ret
    exact ⟨ret_bool HB.out.symm, (u0.trans u1).trans u2⟩
  · have HG := Lib.hid eg
    have HS := Lib.hid es
    have HB : Hid (tabB T.par s t = b) := Lib.hid (by rw [← hb]; simp [allB, es, eg])
    clear hb eg es
    go_enter Try.func61, Try.ntmps61
    go_wp2_with fail
    refine (IsGeo_b true _ T _ HG.out (R1.out.ext u0)).mono ?_
    rintro e w1 ⟨rfl, u1⟩
    go_wp2_with fail
    refine (IsSchema_b true _ s _ HS.out (R2.out.ext (u0.trans u1)) HW.out).mono ?_
    rintro e w2 ⟨rfl, u2⟩
    have c2 := (b1.ext (u1.trans u2)).cell 0 (by simp)
    have d0 := (b2.ext (u1.trans u2)).cell 0 (by simp)
    have d1 := (b2.ext (u1.trans u2)).cell 1 (by simp)
    have d2 := (b2.ext (u1.trans u2)).cell 2 (by simp)
    have d3 := (b2.ext (u1.trans u2)).cell 3 (by simp)
    go_wp2_with fail
    refine (isTable_b b _ _ _ T s t _ HB.out (R1.out.ext ((u0.trans u1).trans u2)) (R2.out.ext ((u0.trans u1).trans u2)) (R3.out.ext ((u0.trans u1).trans u2)) (geoB_true.1 HG.out) (schB_true.1 HS.out)).mono ?_
    rintro e w3 ⟨rfl, u3⟩
    go_wp2
    go_ret
    exact ⟨rfl, ((u0.trans u1).trans u2).trans u3⟩
set_option maxHeartbeats 1600000 in
theorem nPlan_b (b : Bool) (v1 v2 v3 : Value) (T : Ge) (s : List Vr) (l : List Ta) (w : World) (hb : planB T.par s l = b) (h1 : GeR w v1 T) (h2 : Vrs w v2 s) (h3 : Tabs w v3 l) (hw : WfV s) :
    Calls Try.prog 37 #[v1, v2, v3] w fun e w' => e = .returned (.bool b) ∧ Ext w w' := by
  subst hb
  have HW := Lib.hid hw; clear hw
  have R1 := Lib.hid h1
  have R2 := Lib.hid h2; clear h2
  obtain ⟨y1, rfl, i1⟩ := h1
  clear i1
  obtain ⟨a3, c3, rfl, e1, e2, g3⟩ := h3
  have u0 := (Ext.refl w).alloc (.cells #[y1] 33)
  have b1 := Box.new w 33 #[y1] rfl
  have c1 := b1.cell 0 (by simp)
  have R1 := Lib.hid (R1.out.ext u0)
  have R2 := Lib.hid (R2.out.ext u0)
  have G3 := Lib.hid (TabsA.ext g3 u0); clear g3
  rcases eg : geoB T.par with _ | _
  · have HN : Hid ((geoB T.par && schB s) = false) := Lib.hid (by simp [eg])
    have HB := Lib.hid (planB_not (par := T.par) (s := s) (l := l) (fun h => by rw [geoB_true.2 h.1] at eg; cases eg))
    clear eg
    go_enter Try.func37, Try.ntmps37
    go_wp2_with fail
    refine (nInput_b false _ _ T s _ HN.out R1.out R2.out HW.out).mono ?_
    rintro e w1 ⟨rfl, u1⟩
    go_wp2
    go_ret
    exact ⟨ret_bool HB.out.symm, u0.trans u1⟩
  rcases es : schB s with _ | _
  · have HN : Hid ((geoB T.par && schB s) = false) := Lib.hid (by simp [es])
    have HB := Lib.hid (planB_not (par := T.par) (s := s) (l := l) (fun h => by rw [schB_true.2 h.2.1] at es; cases es))
    clear eg es
    go_enter Try.func37, Try.ntmps37
    go_wp2_with fail
    refine (nInput_b false _ _ T s _ HN.out R1.out R2.out HW.out).mono ?_
    rintro e w1 ⟨rfl, u1⟩
    go_wp2
    go_ret
    exact ⟨ret_bool HB.out.symm, u0.trans u1⟩
  have HN : Hid ((geoB T.par && schB s) = true) := Lib.hid (by simp [es, eg])
  have HGP := Lib.hid (geoB_true.1 eg)
  have HSP := Lib.hid (schB_true.1 es)
  clear eg es
  obtain ⟨wq, hwq⟩ : ∃ wq, wq = w.alloc (.cells #[y1] 33) := ⟨_, rfl⟩
  by_cases hl : l.length ≤ 20
  case neg =>
    have HB := Lib.hid (planB_not (par := T.par) (s := s) (l := l) (fun h => hl h.2.2.1))
    clear hwq
    go_enter Try.func37, Try.ntmps37
    go_wp2_with fail
    refine (nInput_b true _ _ T s _ HN.out R1.out R2.out HW.out).mono ?_
    rintro e w1 ⟨rfl, u1⟩
    go_wp2
    go_ret
    exact ⟨ret_bool HB.out.symm, u0.trans u1⟩
  go_enter Try.func37, Try.ntmps37
  go_wp2_with fail
  refine (nInput_b true _ _ T s _ HN.out R1.out R2.out HW.out).mono ?_
  rintro e w1 ⟨rfl, u1⟩
  rw [← hwq] at u0 b1 R1 R2 G3 u1
  clear hwq c1
  have bb := b1.ext u1
  have uu := u0.trans (u1)
  have R1 := Lib.hid (R1.out.ext (u1))
  have R2 := Lib.hid (R2.out.ext (u1))
  have G3 := Lib.hid (TabsA.ext G3.out (u1))
  clear b1 u0 u1
  have HL := Lib.hid hl
  go_wp2_with fail
  go_loopw [20] (fun i wr => ∃ k : Nat, k ≤ l.length ∧ i = .int .i64 k ∧ (∀ j, j < k → TabP T.par s (taAt l j)) ∧ Ext w1 wr) (fun i _ => l.length - (intOf i).toNat)
  case atStart => exact ⟨0, Nat.zero_le _, rfl, (fun j hj => by omega), Ext.refl _⟩
  case round =>
    obtain ⟨k, hk, rfl, hj, hx⟩ := hrel
    obtain ⟨wo, rfl⟩ : ∃ wo : World, wo = wr := ⟨_, rfl⟩
    have HJ := Lib.hid hj; clear hj
    have bo := bb.ext hx
    by_cases hlt : k < l.length
    · obtain ⟨b3, o3, ar, cr, a4, cs, rfl, d0, d1, d2, d3, p1, p2⟩ := (TabsA.ext G3.out hx).at_ hlt
      have R3 := Lib.hid (show TaR wo (.agg #[.int .i64 (taAt l k).level, .slice ar (taAt l k).vars.length cr, .slice a4 (taAt l k).cond.length cs, .int .i64 (taAt l k).sum]) (taAt l k) from ⟨_, _, rfl, p1, p2⟩); clear p1 p2
      have HNB : Hid (¬ TabP T.par s (taAt l k) → planB T.par s l = false) := Lib.hid (fun h => planB_not (fun hp => h (hp.2.2.2 k hlt)))
      have HNX : Hid (TabP T.par s (taAt l k) → ∀ j, j < k + 1 → TabP T.par s (taAt l j)) := Lib.hid (fun h j hj => by
        by_cases e : j = k
        · subst e; exact h
        · exact HJ.out j (by omega))
      obtain ⟨t, ht⟩ : ∃ t, taAt l k = t := ⟨_, rfl⟩
      rw [ht] at d0 d1 d2 d3 R3 HNB HNX
      clear ht
      obtain ⟨A, hA⟩ : ∃ A, t.level = A := ⟨_, rfl⟩
      obtain ⟨B, hB⟩ : ∃ B, t.sum = B := ⟨_, rfl⟩
      obtain ⟨n, hn⟩ : ∃ n, t.vars.length = n := ⟨_, rfl⟩
      obtain ⟨m, hm⟩ : ∃ m, t.cond.length = m := ⟨_, rfl⟩
      rw [hA] at d0 R3
      rw [hB] at d3 R3
      rw [hn] at d1 R3
      rw [hm] at d2 R3
      clear hA hB hn hm
      have bx := Box.new wo 56 #[.int .i64 A, .slice ar n cr, .slice a4 m cs, .int .i64 B] rfl
      have x0 := bx.cell 0 (by simp)
      have x1 := bx.cell 1 (by simp)
      have x2 := bx.cell 2 (by simp)
      have x3 := bx.cell 3 (by simp)
      have y0 := (bo.alloc (.cells #[.int .i64 A, .slice ar n cr, .slice a4 m cs, .int .i64 B] 56)).cell 0 (by simp)
      have uo := hx.alloc (.cells #[.int .i64 A, .slice ar n cr, .slice a4 m cs, .int .i64 B] 56)
      have ul := (Ext.refl wo).alloc (.cells #[.int .i64 A, .slice ar n cr, .slice a4 m cs, .int .i64 B] 56)
      by_cases hp : TabP T.par s t
      · have HT := Lib.hid (allB_true.2 ⟨HGP.out, HSP.out, hp⟩)
        have HX := Lib.hid (HNX.out hp)
        clear hp
        go_wp2_with fail
        refine (uGood_b true _ _ _ T s t _ HT.out (R1.out.ext uo) (R2.out.ext uo) (R3.out.ext ul) HW.out).mono ?_
        rintro e w9 ⟨rfl, u9⟩
        go_wp2
        go_roundw
        case rel => exact ⟨k + 1, by omega, by go_num, HX.out, uo.trans u9⟩
        case measure => simp [intOf]; omega
      · have HT := Lib.hid (allB_not (par := T.par) (s := s) (fun h => hp h.2.2))
        have HX := Lib.hid (HNB.out hp)
        clear hp
        go_wp2_with fail
        refine (uGood_b false _ _ _ T s t _ HT.out (R1.out.ext uo) (R2.out.ext uo) (R3.out.ext ul) HW.out).mono ?_
        rintro e w9 ⟨rfl, u9⟩
        go_wp2
        go_ret
        exact ⟨ret_bool HX.out.symm, uu.trans (uo.trans u9)⟩
    · have HB := Lib.hid (planB_true (par := T.par) (s := s) (l := l).2 ⟨HGP.out, HSP.out, HL.out, fun j hj => HJ.out j (by omega)⟩)
      go_wp2
      go_ret
      exact ⟨ret_bool HB.out.symm, uu.trans hx⟩
set_option maxHeartbeats 1600000 in
theorem isPlan_b (b : Bool) (v1 v2 v3 : Value) (T : Ge) (s : List Vr) (l : List Ta) (w : World) (hb : planB T.par s l = b) (h1 : GeR w v1 T) (h2 : Vrs w v2 s) (h3 : Tabs w v3 l) (hw : WfV s) :
    Calls Try.prog 40 #[v1, v2, v3] w fun e w' => e = .returned (.bool b) ∧ Ext w w' := by
  subst hb
  have HW := Lib.hid hw; clear hw
  have R1 := Lib.hid h1
  have R2 := Lib.hid h2; clear h2
  obtain ⟨y1, rfl, i1⟩ := h1
  clear i1
  obtain ⟨a3, c3, rfl, e1, e2, g3⟩ := h3
  have u0 := (Ext.refl w).alloc (.cells #[y1] 33)
  have b1 := Box.new w 33 #[y1] rfl
  have c1 := b1.cell 0 (by simp)
  have R1 := Lib.hid (R1.out.ext u0)
  have R2 := Lib.hid (R2.out.ext u0)
  have G3 := Lib.hid (TabsA.ext g3 u0); clear g3
  rcases eg : geoB T.par with _ | _
  · have HG := Lib.hid eg
    have HB := Lib.hid (planB_not (par := T.par) (s := s) (l := l) (fun h => by rw [geoB_true.2 h.1] at eg; cases eg))
    clear eg
    go_enter Try.func40, Try.ntmps40
    go_wp2_with fail
    refine (IsGeo_b false _ T _ HG.out R1.out).mono ?_
    rintro e w1 ⟨rfl, u1⟩
    go_wp2
    go_ret
    exact ⟨ret_bool HB.out.symm, u0.trans u1⟩
  have HG := Lib.hid eg
  rcases es : schB s with _ | _
  · have HS := Lib.hid es
    have HB := Lib.hid (planB_not (par := T.par) (s := s) (l := l) (fun h => by rw [schB_true.2 h.2.1] at es; cases es))
    clear eg es
    go_enter Try.func40, Try.ntmps40
    go_wp2_with fail
    refine (IsGeo_b true _ T _ HG.out R1.out).mono ?_
    rintro e w1 ⟨rfl, u1⟩
    go_wp2_with fail
    refine (IsSchema_b false _ s _ HS.out (R2.out.ext u1) HW.out).mono ?_
    rintro e w2 ⟨rfl, u2⟩
    go_wp2
    go_ret
    exact ⟨ret_bool HB.out.symm, (u0.trans u1).trans u2⟩
  have HS := Lib.hid es
  have HGP := Lib.hid (geoB_true.1 eg)
  have HSP := Lib.hid (schB_true.1 es)
  clear eg es
  obtain ⟨wq, hwq⟩ : ∃ wq, wq = w.alloc (.cells #[y1] 33) := ⟨_, rfl⟩
  by_cases hl : l.length ≤ 20
  case neg =>
    have HB := Lib.hid (planB_not (par := T.par) (s := s) (l := l) (fun h => hl h.2.2.1))
    clear hwq
    go_enter Try.func40, Try.ntmps40
    go_wp2_with fail
    refine (IsGeo_b true _ T _ HG.out R1.out).mono ?_
    rintro e w1 ⟨rfl, u1⟩
    go_wp2_with fail
    refine (IsSchema_b true _ s _ HS.out (R2.out.ext u1) HW.out).mono ?_
    rintro e w2 ⟨rfl, u2⟩
    go_wp2
    go_ret
    exact ⟨ret_bool HB.out.symm, (u0.trans u1).trans u2⟩
  go_enter Try.func40, Try.ntmps40
  go_wp2_with fail
  refine (IsGeo_b true _ T _ HG.out R1.out).mono ?_
  rintro e w1 ⟨rfl, u1⟩
  go_wp2_with fail
  refine (IsSchema_b true _ s _ HS.out (R2.out.ext u1) HW.out).mono ?_
  rintro e w2 ⟨rfl, u2⟩
  rw [← hwq] at u0 b1 R1 R2 G3 u1
  clear hwq c1
  have bb := b1.ext (u1.trans u2)
  have uu := u0.trans ((u1.trans u2))
  have R1 := Lib.hid (R1.out.ext ((u1.trans u2)))
  have R2 := Lib.hid (R2.out.ext ((u1.trans u2)))
  have G3 := Lib.hid (TabsA.ext G3.out ((u1.trans u2)))
  clear b1 u0 u1 u2
  have HL := Lib.hid hl
  go_wp2_with fail
  go_loopw [24] (fun i wr => ∃ k : Nat, k ≤ l.length ∧ i = .int .i64 k ∧ (∀ j, j < k → TabP T.par s (taAt l j)) ∧ Ext w2 wr) (fun i _ => l.length - (intOf i).toNat)
  case atStart => exact ⟨0, Nat.zero_le _, rfl, (fun j hj => by omega), Ext.refl _⟩
  case round =>
    obtain ⟨k, hk, rfl, hj, hx⟩ := hrel
    obtain ⟨wo, rfl⟩ : ∃ wo : World, wo = wr := ⟨_, rfl⟩
    have HJ := Lib.hid hj; clear hj
    have bo := bb.ext hx
    by_cases hlt : k < l.length
    · obtain ⟨b3, o3, ar, cr, a4, cs, rfl, d0, d1, d2, d3, p1, p2⟩ := (TabsA.ext G3.out hx).at_ hlt
      have R3 := Lib.hid (show TaR wo (.agg #[.int .i64 (taAt l k).level, .slice ar (taAt l k).vars.length cr, .slice a4 (taAt l k).cond.length cs, .int .i64 (taAt l k).sum]) (taAt l k) from ⟨_, _, rfl, p1, p2⟩); clear p1 p2
      have HNB : Hid (¬ TabP T.par s (taAt l k) → planB T.par s l = false) := Lib.hid (fun h => planB_not (fun hp => h (hp.2.2.2 k hlt)))
      have HNX : Hid (TabP T.par s (taAt l k) → ∀ j, j < k + 1 → TabP T.par s (taAt l j)) := Lib.hid (fun h j hj => by
        by_cases e : j = k
        · subst e; exact h
        · exact HJ.out j (by omega))
      obtain ⟨t, ht⟩ : ∃ t, taAt l k = t := ⟨_, rfl⟩
      rw [ht] at d0 d1 d2 d3 R3 HNB HNX
      clear ht
      obtain ⟨A, hA⟩ : ∃ A, t.level = A := ⟨_, rfl⟩
      obtain ⟨B, hB⟩ : ∃ B, t.sum = B := ⟨_, rfl⟩
      obtain ⟨n, hn⟩ : ∃ n, t.vars.length = n := ⟨_, rfl⟩
      obtain ⟨m, hm⟩ : ∃ m, t.cond.length = m := ⟨_, rfl⟩
      rw [hA] at d0 R3
      rw [hB] at d3 R3
      rw [hn] at d1 R3
      rw [hm] at d2 R3
      clear hA hB hn hm
      have bx := Box.new wo 56 #[.int .i64 A, .slice ar n cr, .slice a4 m cs, .int .i64 B] rfl
      have x0 := bx.cell 0 (by simp)
      have x1 := bx.cell 1 (by simp)
      have x2 := bx.cell 2 (by simp)
      have x3 := bx.cell 3 (by simp)
      have y0 := (bo.alloc (.cells #[.int .i64 A, .slice ar n cr, .slice a4 m cs, .int .i64 B] 56)).cell 0 (by simp)
      have uo := hx.alloc (.cells #[.int .i64 A, .slice ar n cr, .slice a4 m cs, .int .i64 B] 56)
      have ul := (Ext.refl wo).alloc (.cells #[.int .i64 A, .slice ar n cr, .slice a4 m cs, .int .i64 B] 56)
      by_cases hp : TabP T.par s t
      · have HT := Lib.hid (tabB_true.2 hp)
        have HX := Lib.hid (HNX.out hp)
        clear hp
        go_wp2_with fail
        refine (isTable_b true _ _ _ T s t _ HT.out (R1.out.ext uo) (R2.out.ext uo) (R3.out.ext ul) HGP.out HSP.out).mono ?_
        rintro e w9 ⟨rfl, u9⟩
        go_wp2
        go_roundw
        case rel => exact ⟨k + 1, by omega, by go_num, HX.out, uo.trans u9⟩
        case measure => simp [intOf]; omega
      · have HT := Lib.hid (tabB_not hp)
        have HX := Lib.hid (HNB.out hp)
        clear hp
        go_wp2_with fail
        refine (isTable_b false _ _ _ T s t _ HT.out (R1.out.ext uo) (R2.out.ext uo) (R3.out.ext ul) HGP.out HSP.out).mono ?_
        rintro e w9 ⟨rfl, u9⟩
        go_wp2
        go_ret
        exact ⟨ret_bool HX.out.symm, uu.trans (uo.trans u9)⟩
    · have HB := Lib.hid (planB_true (par := T.par) (s := s) (l := l).2 ⟨HGP.out, HSP.out, HL.out, fun j hj => HJ.out j (by omega)⟩)
      go_wp2
      go_ret
      exact ⟨ret_bool HB.out.symm, uu.trans hx⟩
end Go.Proofs.Ytolmmhdeebgglaa
