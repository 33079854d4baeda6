/- PerturbCounts, the spec's and the program's. -/
import Derived.Test.YtabfnpndfknjaaaNoiseOf
import Derived.Test.YtabfnpndfknjaaaApp
import Derived.Deep.RegionHeld3
namespace Go.Proofs.Ytabfnpndfknjaaa
open Go.RowKit

theorem ntEl_bound {xss : List (List Int)} {count key : Int} (ho : ntOk xss) (hk : 0 ≤ key ∧ key ≤ 65535) : -5 ≤ ntEl xss count key ∧ ntEl xss count key ≤ 5 := by
  have h1 := ho.2.2 _ (ntIdx_lt (count := count) ho)
  have h2 := h1.2 (key / 4096).toNat (by rw [h1.1]; omega)
  exact ⟨h2.1, h2.2.1⟩
def pertEl (xss : List (List Int)) (cs ks : List Int) (i : Nat) : Int := ix cs i + ntEl xss (ix cs i) (ix ks i)
def pert (xss : List (List Int)) (cs ks : List Int) : List Int := (List.range cs.length).map (pertEl xss cs ks)
theorem pert_length (xss : List (List Int)) (cs ks : List Int) : (pert xss cs ks).length = cs.length := by simp [pert]
theorem ix_pert {xss : List (List Int)} {cs ks : List Int} {i : Nat} (h : i < cs.length) : ix (pert xss cs ks) i = pertEl xss cs ks i := by simp [ix, pert, List.getD, h]
theorem pert_take_succ {xss : List (List Int)} {cs ks : List Int} {i : Nat} (h : i < cs.length) : (pert xss cs ks).take (i + 1) = (pert xss cs ks).take i ++ [pertEl xss cs ks i] := by
  rw [take_succ_ix (by rw [pert_length]; exact h), ix_pert h]
def PertOk (cs ks : List Int) : Prop := cs.length ≤ 1000 ∧ ks.length = cs.length ∧ allIn 0 1000000 cs = true ∧ allIn 0 65535 ks = true
open Classical in
noncomputable def pertB (xss : List (List Int)) (cs ks : List Int) : Bool := decide (ntOk xss ∧ PertOk cs ks)
noncomputable def pertV (xss : List (List Int)) (cs ks : List Int) : List Int := if pertB xss cs ks = true then pert xss cs ks else []
theorem pertB_of {xss : List (List Int)} {cs ks : List Int} (h : ntOk xss) (h2 : PertOk cs ks) : pertB xss cs ks = true := by simp [pertB, h, h2]
theorem pertB_not {xss : List (List Int)} {cs ks : List Int} (h : ¬ (ntOk xss ∧ PertOk cs ks)) : pertB xss cs ks = false := by simp only [pertB, h, decide_false]
theorem pertV_of {xss : List (List Int)} {cs ks : List Int} (h : pertB xss cs ks = true) : pertV xss cs ks = pert xss cs ks := by simp [pertV, h]
theorem pertV_not {xss : List (List Int)} {cs ks : List Int} (h : pertB xss cs ks = false) : pertV xss cs ks = [] := by simp [pertV, h]

theorem yKeys_b (b : Bool) (v : Value) (xs : List Int) (w : World) (hb : allIn 0 65535 xs = b) (h : Ints w v xs) : Calls Try.prog 65 #[v] w fun e w' => e = .returned (.bool b) ∧ w' = w := by
  go_enter Try.func65, Try.ntmps65
  go_wp2_with fail
  refine (l1All_b b v xs 0 65535 _ hb h).mono ?_
  rintro e w' ⟨rfl, rfl⟩
  go_wp2
  go_ret
  exact ⟨rfl, rfl⟩
theorem areKeys_b (b : Bool) (v : Value) (xs : List Int) (w : World) (hb : allIn 0 65535 xs = b) (h : Ints w v xs) : Calls Try.prog 67 #[v] w fun e w' => e = .returned (.bool b) ∧ w' = w := by
  subst hb; exact areKeys_c v xs w h

set_option maxHeartbeats 1600000 in
theorem yPerturb_c (v : Value) (xss : List (List Int)) (v1 : Value) (cs : List Int) (v2 : Value) (ks : List Int) (w : World) (h : Grid w v xss) (h1 : Ints w v1 cs) (h2 : Ints w v2 ks) (ho : ntOk xss) (hp : PertOk cs ks) :
    Calls Try.prog 66 #[.agg #[v], v1, v2] w (RetInts (fun v' => v') w (pert xss cs ks)) := by
  have H := Lib.hid h
  obtain ⟨ao, cap, rfl, g1, g2, g3⟩ := h
  clear g3
  obtain ⟨a1, c1, rfl, e1, e2, e3⟩ := h1
  obtain ⟨a2, c2, rfl, e4, e5, e6⟩ := h2
  have G1 := Lib.hid e3; clear e3
  have G2 := Lib.hid e6; clear e6
  have HO := Lib.hid ho; clear ho
  have hl1000 := hp.1
  have HP := Lib.hid hp; clear hp
  have u0 := (Ext.refl w).alloc (.cells #[.slice ao xss.length cap] 46)
  have b0 := Box.new w 46 #[.slice ao xss.length cap] rfl
  go_enter Try.func66, Try.ntmps66
  go_wp2
  go_loopw [7, 12] (fun r i wr => ∃ k : Nat, k ≤ cs.length ∧ i = .int .i64 k ∧ IRow (w.heap.size + 1) wr r ((pert xss cs ks).take k) ∧ Box wr w.heap.size 46 #[.slice ao xss.length cap] ∧ Ext w wr) (fun _ i _ => cs.length - (intOf i).toNat)
  case atStart => exact ⟨0, Nat.zero_le _, rfl, by simpa using IRow.nil, b0, u0⟩
  case round =>
    obtain ⟨k, hk, rfl, hr, hb, hx⟩ := hrel
    by_cases hlt : k < cs.length
    · obtain ⟨bc, oc, rfl, hc⟩ := G1.out k hlt
      obtain ⟨bk, ok, rfl, hkc⟩ := G2.out k (by have := HP.out.2.1; omega)
      have hc1 := Ext.cell hx hc
      have hkc1 := Ext.cell hx hkc
      have cb := hb.cell 0 (by simp)
      have n1 := allIn_true HP.out.2.2.1 hlt
      have n2 := allIn_true HP.out.2.2.2 (j := k) (by have := HP.out.2.1; omega)
      have n3 := ntEl_bound (count := ix cs k) HO.out n2
      have hbl := World.block_lt_of_cell? w _ hkc
      simp only at hbl
      have HR := Lib.hid hr
      have htk : ((pert xss cs ks).take k).length = k := by simp [pert_length]; omega
      have hown := hr
      unfold IRow at hown
      rw [htk] at hown
      have HOWN := Lib.hid hown; clear hown hr
      have k0 : (0 : Int) ≤ (k : Int) := by omega
      have k1 : (k : Int) < (ks.length : Int) := by have := HP.out.2.1; omega
      obtain ⟨x, hxx⟩ : ∃ x, x = pertEl xss cs ks k := ⟨_, rfl⟩
      have hw : IntKind.i64.wrap (ix cs k + ntEl xss (ix cs k) (ix ks k)) = x := by rw [hxx]; exact IntWalk.i64_in _ (by omega)
      have HX := Lib.hid hxx; clear hxx
      have hs := hx.size
      have b1 := hb.drew
      have N1 := Lib.hid n1
      clear n1 n3
      go_wp2_with fail
      go_region_held3 (fun w' => w'.cell? ⟨w.heap.size, 0, none⟩ = some (.slice ao xss.length cap) ∧ w'.cell? ⟨bk, ok + k, none⟩ = some (.int .i64 (ix ks k)))
        (first | exact ⟨Ext.cell u2 cb, Ext.cell u2 hkc1⟩ | exact ⟨Ext.cell (u2.alloc _) cb, Ext.cell (u2.alloc _) hkc1⟩ | exact ⟨(HR.out.ext ((Ext.refl _).drew.trans (u2.alloc _))).far hgrow (by simp) (Ext.cell (u2.alloc _) cb), (HR.out.ext ((Ext.refl _).drew.trans (u2.alloc _))).far hgrow (by simp; omega) (Ext.cell (u2.alloc _) hkc1)⟩ | go_keep)
        ((first
          | (go_at_call 78; refine (yNoise_c _ xss (ix cs k) (ix ks k) _ (H.out.ext hx.drew) HO.out (by have := N1.out; omega) n2).mono ?_; rintro e w2 ⟨rfl, u2⟩)
          | (refine app1s _ (by rfl) _ _ 43 3 (by rfl) (.int .i64 0) 8 Try.underlying43 info_int rfl (w.heap.size + 1) _ k _ (by rfl) (HOWN.out.kept (row := none) ⟨((Ext.refl wr).drew.trans (u2.alloc _)).os, ((Ext.refl wr).drew.trans (u2.alloc _)).tape, ((Ext.refl wr).drew.trans (u2.alloc _)).output, ((Ext.refl wr).drew.trans (u2.alloc _)).size, fun k hk _ => ((Ext.refl wr).drew.trans (u2.alloc _)).block hk⟩ (by cases (Value.ownBlock _) <;> simp)) w2.heap.size 1 3 (.int .i64 x) (by rfl) (Box.new _ _ _ rfl) rfl (by omega) (by omega) (by have := u2.size; simp at this; simp; omega) ?_; intro g cp w3 hown3 hgrow hat hlt3)))
      go_wp2
      go_roundw
      case rel =>
        have h3 := HR.out.ext ((Ext.refl _).drew.trans (u2.alloc (.cells #[.int .i64 x] 3)))
        refine ⟨k + 1, by omega, by go_num, ?_, h3.box hgrow (by omega) (hb.ext ((Ext.refl _).drew.trans (u2.alloc _))), h3.grew (hx.trans ((Ext.refl _).drew.trans (u2.alloc _))) (by omega) hgrow⟩
        rw [pert_take_succ hlt, ← HX.out]
        exact IRow.push (by rw [htk]; exact hown3)
      case measure => simp [intOf]; omega
    · have hkk : (pert xss cs ks).take k = pert xss cs ks := by rw [List.take_of_length_le]; rw [pert_length]; omega
      rw [hkk] at hr
      go_wp2
      go_ret
      exact ⟨_, rfl, (hr.own (Nat.le_refl _)).mono (by omega) (Nat.le_refl _), hx⟩

set_option maxHeartbeats 1600000 in
theorem specPerturb_c (v : Value) (xss : List (List Int)) (v1 : Value) (cs : List Int) (v2 : Value) (ks : List Int) (w : World) (h : Grid w v xss) (h1 : Ints w v1 cs) (h2 : Ints w v2 ks) :
    Calls Try.prog 32 #[.agg #[v], v1, v2] w (RetInts (fun v' => .tuple #[v', .bool (pertB xss cs ks)]) w (pertV xss cs ks)) := by
  have H := Lib.hid h
  have H1 := Lib.hid h1
  have H2 := Lib.hid h2
  obtain ⟨ao, cap, rfl, g1, g2, g3⟩ := h
  clear g3
  obtain ⟨a1, c1, rfl, e1, e2, e3⟩ := h1
  obtain ⟨a2, c2, rfl, e4, e5, e6⟩ := h2
  clear e3 e6
  have u0 := (Ext.refl w).alloc (.cells #[.slice ao xss.length cap] 46)
  have b0 := Box.new w 46 #[.slice ao xss.length cap] rfl
  cases hb : ntB xss
  · have hB : pertB xss cs ks = false := pertB_not (by rintro ⟨t0, t1, t2, t3, t4⟩; rw [ntB_true.2 t0] at hb; cases hb)
    have hV := pertV_not hB
    rw [hV, hB]; clear hV hB
    have HB := Lib.hid hb; clear hb
    go_enter Try.func32, Try.ntmps32
    go_wp2_with fail
    refine (yGood_b false _ xss _ HB.out (H.out.ext u0)).mono ?_
    rintro e w1 ⟨rfl, u1⟩
    go_wp2
    go_ret2
    exact ⟨_, rfl, Own.nil, u0.trans u1⟩
  by_cases hn1 : 1000 < cs.length
  · have hB : pertB xss cs ks = false := pertB_not (by rintro ⟨t0, t1, t2, t3, t4⟩; omega)
    have hV := pertV_not hB
    rw [hV, hB]; clear hV hB
    have HB := Lib.hid hb; clear hb
    go_enter Try.func32, Try.ntmps32
    go_wp2_with fail
    refine (yGood_b true _ xss _ HB.out (H.out.ext u0)).mono ?_
    rintro e w1 ⟨rfl, u1⟩
    go_wp2
    go_ret2
    exact ⟨_, rfl, Own.nil, u0.trans u1⟩
  by_cases hn2 : ks.length ≠ cs.length
  · have hB : pertB xss cs ks = false := pertB_not (by rintro ⟨t0, t1, t2, t3, t4⟩; omega)
    have hV := pertV_not hB
    rw [hV, hB]; clear hV hB
    have HB := Lib.hid hb; clear hb
    have hne : ((ks.length : Int) != (cs.length : Int)) = true := by simp; omega
    go_enter Try.func32, Try.ntmps32
    go_wp2_with fail
    refine (yGood_b true _ xss _ HB.out (H.out.ext u0)).mono ?_
    rintro e w1 ⟨rfl, u1⟩
    go_wp2
    go_ret2
    exact ⟨_, rfl, Own.nil, u0.trans u1⟩
  have hn3 : ks.length = cs.length := Decidable.not_not.1 hn2
  clear hn2
  cases h3 : allIn 0 1000000 cs
  · have hB : pertB xss cs ks = false := pertB_not (by rintro ⟨t0, t1, t2, t3, t4⟩; rw [t3] at h3; cases h3)
    have hV := pertV_not hB
    rw [hV, hB]; clear hV hB
    have hne : ((ks.length : Int) != (cs.length : Int)) = false := by simp; omega
    have HN3 := Lib.hid hn3; clear hn3
    have HB := Lib.hid hb; clear hb
    have HC3 := Lib.hid h3; clear h3
    go_enter Try.func32, Try.ntmps32
    go_wp2_with fail
    refine (yGood_b true _ xss _ HB.out (H.out.ext u0)).mono ?_
    rintro e w1 ⟨rfl, u1⟩
    go_wp2_with fail
    refine (l1All_b false _ cs 0 1000000 _ HC3.out (H1.out.ext (u0.trans u1))).mono ?_
    rintro e w' ⟨rfl, rfl⟩
    go_wp2
    go_ret2
    exact ⟨_, rfl, Own.nil, u0.trans u1⟩
  cases h4 : allIn 0 65535 ks
  · have hB : pertB xss cs ks = false := pertB_not (by rintro ⟨t0, t1, t2, t3, t4⟩; rw [t4] at h4; cases h4)
    have hV := pertV_not hB
    rw [hV, hB]; clear hV hB
    have hne : ((ks.length : Int) != (cs.length : Int)) = false := by simp; omega
    have HN3 := Lib.hid hn3; clear hn3
    have HB := Lib.hid hb; clear hb
    have HC3 := Lib.hid h3; clear h3
    have HC4 := Lib.hid h4; clear h4
    go_enter Try.func32, Try.ntmps32
    go_wp2_with fail
    refine (yGood_b true _ xss _ HB.out (H.out.ext u0)).mono ?_
    rintro e w1 ⟨rfl, u1⟩
    go_wp2_with fail
    refine (l1All_b true _ cs 0 1000000 _ HC3.out (H1.out.ext (u0.trans u1))).mono ?_
    rintro e w' ⟨rfl, rfl⟩
    go_wp2_with fail
    refine (yKeys_b false _ ks _ HC4.out (H2.out.ext (u0.trans u1))).mono ?_
    rintro e w' ⟨rfl, rfl⟩
    go_wp2
    go_ret2
    exact ⟨_, rfl, Own.nil, u0.trans u1⟩
  have hne : ((ks.length : Int) != (cs.length : Int)) = false := by simp; omega
  have hP : PertOk cs ks := ⟨by omega, hn3, h3, h4⟩
  have HP := Lib.hid hP; clear hP
  have HN3 := Lib.hid hn3; clear hn3
  have hB : pertB xss cs ks = true := pertB_of (ntB_true.1 hb) HP.out
  have hV := pertV_of hB
  rw [hV, hB]; clear hV hB
  have HB := Lib.hid hb; clear hb
  have HC3 := Lib.hid h3; clear h3
  have HC4 := Lib.hid h4; clear h4
  go_enter Try.func32, Try.ntmps32
  go_wp2_with fail
  refine (yGood_b true _ xss _ HB.out (H.out.ext u0)).mono ?_
  rintro e w1 ⟨rfl, u1⟩
  have cb := (b0.ext u1).cell 0 (by simp)
  go_wp2_with fail
  refine (l1All_b true _ cs 0 1000000 _ HC3.out (H1.out.ext (u0.trans u1))).mono ?_
  rintro e w' ⟨rfl, rfl⟩
  go_wp2_with fail
  refine (yKeys_b true _ ks _ HC4.out (H2.out.ext (u0.trans u1))).mono ?_
  rintro e w' ⟨rfl, rfl⟩
  go_wp2_with fail
  refine (yPerturb_c _ xss _ cs _ ks _ (H.out.ext (u0.trans u1)) (H1.out.ext (u0.trans u1)) (H2.out.ext (u0.trans u1)) (ntB_true.1 HB.out) HP.out).mono ?_
  rintro e w2 ⟨v', rfl, o2, u2⟩
  have hs := (u0.trans u1).size
  go_wp2
  go_ret2
  exact ⟨_, rfl, o2.mono hs (Nat.le_refl _), (u0.trans u1).trans u2⟩
set_option maxHeartbeats 1600000 in
theorem implPerturb_c (v : Value) (xss : List (List Int)) (v1 : Value) (cs : List Int) (v2 : Value) (ks : List Int) (w : World) (h : Grid w v xss) (h1 : Ints w v1 cs) (h2 : Ints w v2 ks) :
    Calls Try.prog 34 #[.agg #[v], v1, v2] w (RetInts (fun v' => .tuple #[v', .bool (pertB xss cs ks)]) w (pertV xss cs ks)) := by
  have H := Lib.hid h
  have H1 := Lib.hid h1
  have H2 := Lib.hid h2
  obtain ⟨ao, cap, rfl, g1, g2, g3⟩ := h
  clear g3
  obtain ⟨a1, c1, rfl, e1, e2, e3⟩ := h1
  obtain ⟨a2, c2, rfl, e4, e5, e6⟩ := h2
  clear e3 e6
  have u0 := (Ext.refl w).alloc (.cells #[.slice ao xss.length cap] 46)
  have b0 := Box.new w 46 #[.slice ao xss.length cap] rfl
  cases hb : ntB xss
  · have hB : pertB xss cs ks = false := pertB_not (by rintro ⟨t0, t1, t2, t3, t4⟩; rw [ntB_true.2 t0] at hb; cases hb)
    have hV := pertV_not hB
    rw [hV, hB]; clear hV hB
    have HB := Lib.hid hb; clear hb
    go_enter Try.func34, Try.ntmps34
    go_wp2_with fail
    refine (implIsNoiseTable_b false _ xss _ HB.out (H.out.ext u0)).mono ?_
    rintro e w1 ⟨rfl, u1⟩
    go_wp2
    go_ret2
    exact ⟨_, rfl, Own.nil, u0.trans u1⟩
  by_cases hn1 : 1000 < cs.length
  · have hB : pertB xss cs ks = false := pertB_not (by rintro ⟨t0, t1, t2, t3, t4⟩; omega)
    have hV := pertV_not hB
    rw [hV, hB]; clear hV hB
    have HB := Lib.hid hb; clear hb
    go_enter Try.func34, Try.ntmps34
    go_wp2_with fail
    refine (implIsNoiseTable_b true _ xss _ HB.out (H.out.ext u0)).mono ?_
    rintro e w1 ⟨rfl, u1⟩
    go_wp2
    go_ret2
    exact ⟨_, rfl, Own.nil, u0.trans u1⟩
  by_cases hn2 : ks.length ≠ cs.length
  · have hB : pertB xss cs ks = false := pertB_not (by rintro ⟨t0, t1, t2, t3, t4⟩; omega)
    have hV := pertV_not hB
    rw [hV, hB]; clear hV hB
    have HB := Lib.hid hb; clear hb
    have hne : ((ks.length : Int) != (cs.length : Int)) = true := by simp; omega
    go_enter Try.func34, Try.ntmps34
    go_wp2_with fail
    refine (implIsNoiseTable_b true _ xss _ HB.out (H.out.ext u0)).mono ?_
    rintro e w1 ⟨rfl, u1⟩
    go_wp2
    go_ret2
    exact ⟨_, rfl, Own.nil, u0.trans u1⟩
  have hn3 : ks.length = cs.length := Decidable.not_not.1 hn2
  clear hn2
  cases h4 : allIn 0 65535 ks
  · have hB : pertB xss cs ks = false := pertB_not (by rintro ⟨t0, t1, t2, t3, t4⟩; rw [t4] at h4; cases h4)
    have hV := pertV_not hB
    rw [hV, hB]; clear hV hB
    have hne : ((ks.length : Int) != (cs.length : Int)) = false := by simp; omega
    have HN3 := Lib.hid hn3; clear hn3
    have HB := Lib.hid hb; clear hb
    have HC4 := Lib.hid h4; clear h4
    go_enter Try.func34, Try.ntmps34
    go_wp2_with fail
    refine (implIsNoiseTable_b true _ xss _ HB.out (H.out.ext u0)).mono ?_
    rintro e w1 ⟨rfl, u1⟩
    go_wp2_with fail
    refine (areKeys_b false _ ks _ HC4.out (H2.out.ext (u0.trans u1))).mono ?_
    rintro e w' ⟨rfl, rfl⟩
    go_wp2
    go_ret2
    exact ⟨_, rfl, Own.nil, u0.trans u1⟩
  have hne : ((ks.length : Int) != (cs.length : Int)) = false := by simp; omega
  have HB := Lib.hid hb; clear hb
  have HN3 := Lib.hid hn3; clear hn3
  have HC4 := Lib.hid h4; clear h4
  have hmk : ∀ w : World, (Instr.makeSlice 43 (.int .i64 (cs.length : Int)) (.int .i64 (cs.length : Int))).run Try.prog w = .ok (.slice (some ⟨w.heap.size, 0, none⟩) cs.length cs.length) (w.alloc (.cells (madeCells #[.int .i64 0] cs.length) 3)) :=
    fun w => run_make_row' (P := Try.prog) 43 3 (.int .i64 0) 8 Try.underlying43 info_int rfl .i64 .i64 cs.length (by omega) (by omega) w
  go_enter Try.func34, Try.ntmps34
  go_wp2_with fail
  refine (implIsNoiseTable_b true _ xss _ HB.out (H.out.ext u0)).mono ?_
  rintro e w1 ⟨rfl, u1⟩
  have b1 := b0.ext u1
  have cb := b1.cell 0 (by simp)
  have hs1 := (u0.trans u1).size
  have hs1' := u1.size
  simp at hs1'
  have x1 := u0.trans u1
  go_wp2_with fail
  refine (areKeys_b true _ ks _ HC4.out (H2.out.ext x1)).mono ?_
  rintro e w1 ⟨rfl, rfl⟩
  have G1 := Lib.hid ((H1.out.ext x1))
  have G2 := Lib.hid ((H2.out.ext x1))
  go_wp2
  go_loopw [36] (fun i wr => ∃ k : Nat, k ≤ cs.length ∧ i = .int .i64 k ∧ (∀ j, j < k → 0 ≤ ix cs j ∧ ix cs j ≤ 1000000) ∧ wr.rowIs w1.heap.size 3 cs.length (fun j => if j < k then .int .i64 (pertEl xss cs ks j) else .int .i64 0) ∧ Box wr w.heap.size 46 #[.slice ao xss.length cap] ∧ Ext w1 wr) (fun i _ => cs.length - (intOf i).toNat)
  case atStart => exact ⟨0, Nat.zero_le _, rfl, fun j hj => by omega, (World.rowIs_made _ _ _ _).congr (fun j _ => by simp), b1.alloc _, (Ext.refl w1).alloc _⟩
  case round =>
    obtain ⟨k, hk, rfl, hj, hr, hb, hx⟩ := hrel
    have HJ := Lib.hid hj; clear hj
    have HR := Lib.hid hr; clear hr
    by_cases hlt : k < cs.length
    · obtain ⟨_, _, hh1, _, _, ga⟩ := G1.out
      cases hh1
      obtain ⟨_, _, hh2, _, _, gb⟩ := G2.out
      cases hh2
      obtain ⟨bc, oc, rfl, hc⟩ := ga k hlt
      obtain ⟨bk, ok, rfl, hkc⟩ := gb k (by have := HN3.out; omega)
      clear ga gb
      have hc1 := Ext.cell hx hc
      by_cases hin : 0 ≤ ix cs k ∧ ix cs k ≤ 1000000
      · have n2 := allIn_true HC4.out (j := k) (by have := HN3.out; omega)
        have n3 := ntEl_bound (count := ix cs k) (ntB_true.1 HB.out) n2
        have hkc1 := Ext.cell hx hkc
        have cbb := hb.cell 0 (by simp)
        have hbl := World.block_lt_of_cell? w1 _ hkc
        simp only at hbl
        obtain ⟨x, hxx⟩ : ∃ x, x = pertEl xss cs ks k := ⟨_, rfl⟩
        have k0 : (0 : Int) ≤ (k : Int) := by omega
        have k1 : (k : Int) < (ks.length : Int) := by have := HN3.out; omega
        have k2 : (k : Int) < (cs.length : Int) := by omega
        have d1 : decide (ix cs k < 0) = false := by simp; omega
        have d2 : decide (1000000 < ix cs k) = false := by simp; omega
        have hw : IntKind.i64.wrap (ix cs k + ntEl xss (ix cs k) (ix ks k)) = x := by rw [hxx]; exact IntWalk.i64_in _ (by omega)
        have HX := Lib.hid hxx; clear hxx
        clear n3
        have N1 : Hid (0 ≤ ix cs k ∧ ix cs k ≤ 9223372036854775807) := Lib.hid (by omega)
        have hcell := HR.out.cell hlt
        have hfr := HR.out.frozen k
        have HIN := Lib.hid hin
        obtain ⟨wo, rfl⟩ : ∃ wo : World, wo = wr := ⟨_, rfl⟩
        go_wp2_with fail
        go_region_held3 (fun w' => w'.cell? ⟨w.heap.size, 0, none⟩ = some (.slice ao xss.length cap) ∧ w'.cell? ⟨bk, ok + k, none⟩ = some (.int .i64 (ix ks k)))
          (first | exact ⟨Ext.cell u2 cbb, Ext.cell u2 hkc1⟩ | exact ⟨(cell_far (by simp; omega)).trans (Ext.cell u2 cbb), (cell_far (by simp; omega)).trans (Ext.cell u2 hkc1)⟩ | go_keep)
          ((first
            | (go_at_call 68; refine (noiseOf_c _ xss (ix cs k) (ix ks k) _ (H.out.ext ((x1.trans hx).drew)) (ntB_true.1 HB.out) N1.out n2).mono ?_; rintro e w2 ⟨rfl, u2⟩; have hcell2 := (rowIs_ext HR.out ((Ext.refl wo).drew.trans u2)).cell hlt; have hfr2 := (rowIs_ext HR.out ((Ext.refl wo).drew.trans u2)).frozen k)))
        go_wp2
        go_roundw
        case rel =>
          have hu := (Ext.refl wo).drew.trans u2
          refine ⟨k + 1, by omega, by go_num, fun j hj => ?_, ((rowIs_ext HR.out hu).set k _).congr (fun j hj => ?_), (hb.ext hu).setOther (by simp; omega) _, (hx.trans hu).setCell _ (Nat.le_refl _)⟩
          · by_cases e : j = k
            · subst e; exact HIN.out
            · exact HJ.out j (by omega)
          · by_cases e : j = k
            · subst e; simp [HX.out]
            · have : (j < k + 1) = (j < k) := by apply propext; omega
              simp [e, this]
        case measure => simp [intOf]; omega
      · have hB : pertB xss cs ks = false := pertB_not (by rintro ⟨t0, t1, t2, t3, t4⟩; exact hin (allIn_true t3 hlt))
        have hV := pertV_not hB
        have HVB := Lib.hid (And.intro hV hB); clear hV hB
        by_cases h0 : ix cs k < 0
        · go_wp2
          go_ret2
          rw [HVB.out.1, HVB.out.2]
          exact ⟨_, rfl, Own.nil, x1.trans hx⟩
        · have h0' : 1000000 < ix cs k := by omega
          clear hin
          go_wp2
          go_ret2
          rw [HVB.out.1, HVB.out.2]
          exact ⟨_, rfl, Own.nil, x1.trans hx⟩
    · have hP : PertOk cs ks := ⟨by omega, HN3.out, allIn_of (fun j hj => HJ.out j (by omega)), HC4.out⟩
      have hB : pertB xss cs ks = true := pertB_of (ntB_true.1 HB.out) hP
      have hV := pertV_of hB
      have HVB := Lib.hid (And.intro hV hB); clear hV hB
      have HRR := HR.out.congr (g := fun j => .int .i64 (ix (pert xss cs ks) j)) (fun j hj => by rw [ix_pert hj]; simp; omega)
      go_wp2
      go_ret2
      rw [HVB.out.1, HVB.out.2]
      have := Own.of_rowIs (lo := w.heap.size) (hi := wr.heap.size) HRR (pert_length _ _ _) (fun j hj => rfl) hs1 HRR.lt (by omega)
      exact ⟨_, rfl, this, x1.trans hx⟩
end Go.Proofs.Ytabfnpndfknjaaa
