/- KeyGroups, the program's: the map of groups. -/
import Derived.Test.YtkkoidoinbiikaaGrpM
import Derived.Test.YtkkoidoinbiikaaSort
import Derived.Test.YtkkoidoinbiikaaEqual
import Derived.Maps.OwnOps
import Derived.Deep.CutRange
namespace Go.Proofs.Ytkkoidoinbiikaa
open Go.RowKit Go.Maps Go.ChangeMaps Go.ChangeShapes

theorem grown_of_ext {w w' : World} (u : Ext w w') : w.grownBy w' none := ⟨u.os, u.tape, u.output, u.size, fun _ hk _ => u.block hk⟩
theorem groups_ext {w w' : World} {base b n : Nat} {D : DataW Unit} (h : w.ownsGroups Try.prog 3 base 3 .i64 b n D) (u : Ext w w') : w'.ownsGroups Try.prog 3 base 3 .i64 b n D :=
  h.kept (grown_of_ext u) (by simp) (fun es clock hb x hx => by cases x.val.ownBlock <;> simp)
theorem groups_lt {w : World} {base b n : Nat} {D : DataW Unit} (h : w.ownsGroups Try.prog 3 base 3 .i64 b n D) : b < w.heap.size := by
  obtain ⟨es, clock, hb, _⟩ := h; exact (Array.getElem?_eq_some_iff.1 hb).1
theorem groups_map {w : World} {base b n : Nat} {D : DataW Unit} (h : w.ownsGroups Try.prog 3 base 3 .i64 b n D) : IsMap D := by
  obtain ⟨es, clock, hb, F, hs, rfl, _⟩ := h; exact ⟨_, rfl⟩
theorem lawI : Keyed Try.prog 3 := int_keyed Try.underlying3
theorem zeroSl (w : World) : (zeroValue 24).run Try.prog w = .ok (.slice none 0 0) w := by kernel_rfl

/-- what stands after n records -/
def KG (s : List Vr) (l : List Pe) (vars : List Int) (B : Nat) (w : World) (kv : Value) (ks : List Int) (n : Nat) : Prop :=
  ∃ D : DataW Unit, w.ownsGroups Try.prog 3 (B + 1) 3 .i64 B n D ∧ DatOk s l vars D n ∧ IRow (B + 1) w kv ks ∧ w.Shuns B (fun g => kv.ownBlock = some g)

set_option maxRecDepth 100000 in
set_option maxHeartbeats 3200000 in
theorem keyGroups_c (v1 v2 v3 : Value) (s : List Vr) (l : List Pe) (vars : List Int) (w : World) (h1 : Vrs w v1 s) (h2 : Pes w v2 l) (h3 : Ints w v3 vars) (h40 : l.length ≤ 40) (hko : ∀ k, k < l.length → KeyOk s (peAt l k).vals vars) :
    Calls Try.prog 59 #[v1, v2, v3] w (RetGrid (fun v' => v') w (grps s l vars (keysS s l vars))) := by
  have H1 := Lib.hid h1; clear h1
  have H3 := Lib.hid h3; clear h3
  obtain ⟨a2, c2, rfl, e1, e2, g2⟩ := h2
  have G2 := Lib.hid g2; clear g2
  have HKO := Lib.hid hko; clear hko
  obtain ⟨GG, hGG⟩ : ∃ G, grps s l vars (keysS s l vars) = G := ⟨_, rfl⟩
  rw [hGG]
  have HGG := Lib.hid hGG; clear hGG
  have hmm := @run_makeMap Try.prog
  have q22 : ∀ (w : World) (a : Option Addr) (n c : Nat), (binOp .eql 24 (.slice a n c) (.slice none 0 0)).run Try.prog w = .ok (.bool a.isNone) w := fun w a n c => Go.Lib.run_eql_slice_nil w _ _ a n c 0 0 Try.underlying24
  obtain ⟨i0, hi, hz0, hz1, hz2⟩ := info_parts info_int
  have HG0 := Lib.hid (World.ownsGroups_made (H := Unit) w Try.prog 3 3 .i64)
  go_enter Try.func59, Try.ntmps59
  go_wp2
  go_loopw [8, 18] (fun kv i wr => ∃ n : Nat, n ≤ l.length ∧ i = .int .i64 n ∧ KG s l vars w.heap.size wr kv (fstKeys s l vars n) n ∧ Ext w wr) (fun _ i _ => l.length - (intOf i).toNat)
  case atStart => exact ⟨0, Nat.zero_le _, rfl, ⟨_, HG0.out, DatOk.zero s l vars, IRow.nil, World.Shuns_made _ _⟩, (Ext.refl _).alloc _⟩
  case round =>
    clear HG0
    obtain ⟨n, hn, rfl, ⟨D, hg, hd, hr, hsh⟩, hx⟩ := hrel
    obtain ⟨wo, rfl⟩ : ∃ wo : World, wo = wr := ⟨_, rfl⟩
    have HG := Lib.hid hg; clear hg
    have HD := Lib.hid hd; clear hd
    have HR := Lib.hid hr
    have HSH := Lib.hid hsh; clear hsh
    obtain ⟨ak, ck, rfl⟩ := hr.form
    clear hr
    have hfl := fstKeys_len s l vars n
    by_cases hlt : n < l.length
    · obtain ⟨b, o, ar, cr, rfl, hc0, hc1, hc2, r1, r2, r3⟩ := (G2.out.ext hx).at_ hlt
      have ub := (Ext.refl wo).alloc (.cells #[.int .i64 (peAt l n).area, .int .i64 (peAt l n).house, .slice ar (peAt l n).vals.length cr] 50)
      have HP : Hid (PeR wo (.agg #[.int .i64 (peAt l n).area, .int .i64 (peAt l n).house, .slice ar (peAt l n).vals.length cr]) (peAt l n)) := Lib.hid ⟨_, rfl, ar, cr, rfl, r1, r2, r3⟩
      clear r3
      obtain ⟨kk, hkk⟩ : ∃ x, keyL s (peAt l n).vals vars = x := ⟨_, rfl⟩
      have HKA := Lib.hid hkk
      have hka : keyAt s l vars n = kk := hkk
      have HKT := Lib.hid hka
      have hkb : 0 ≤ kk ∧ kk < 262144 := by rw [← hkk]; exact (HKO.out n hlt).lt vars.length (Nat.le_refl _)
      clear hkk hka
      have hwf : (Lit.int .i64 kk).wf = true := WalkArith.wf_i64 (by omega)
      have hkey : keyOf Try.prog 3 (.int .i64 kk) = some (.int .i64 kk) := keyOf_int_mk Try.underlying3 hwf
      go_wp2_with fail
      refine (keyOf_c _ _ _ s (peAt l n) vars _ (H1.out.ext (hx.trans ub)) (HP.out.ext ub) (H3.out.ext (hx.trans ub)) (HKO.out n hlt)).mono ?_
      rw [HKA.out]
      rintro e w1 ⟨rfl, u1⟩
      have ux := ub.trans u1
      have HG1 := Lib.hid (groups_ext HG.out ux)
      have HR1 := Lib.hid (HR.out.ext ux)
      have hbl := groups_lt HG.out
      have HSH1 := Lib.hid (HSH.out.kept (grown_of_ext ux) hbl (by simp))
      have hx1 := hx.trans ux
      go_wp2_with (at_lookup; refine wpList_lookup_groups_shuns _ rfl _ _ 100 rfl 3 24 3 .i64 lawI Try.underlying100 (zeroSl _) (w.heap.size + 1) w.heap.size n D rfl HG1.out (by unfold maxLen; omega) _ _ rfl hkey ?_)
      intro v zs hat hoi hzl hback hshv
      have hzs := dat_zs (HD.out kk) hat hoi
      subst hzs
      clear hback hshv
      by_cases hnew : grpTo s l vars kk n = []
      · have HFK : Hid (fstKeys s l vars (n + 1) = fstKeys s l vars n ++ [kk]) := Lib.hid (by rw [fstKeys, HKT.out, if_pos hnew])
        have hvn : v = .slice none 0 0 := by
          rw [hnew] at hoi hat
          have h0 := HD.out kk
          rw [hnew, if_pos rfl] at h0
          exact ints_none hoi (hat.symm.trans h0)
        subst hvn
        clear hat hoi hzl hnew
        obtain ⟨ks, hks⟩ : ∃ ks, fstKeys s l vars n = ks := ⟨_, rfl⟩
        rw [hks] at HR1 HFK HSH1 hfl ⊢
        clear hks
        have hbl1 := groups_lt HG1.out
        have uA := (Ext.refl w1).alloc (.cells #[.int .i64 kk] 3)
        have hown := HR1.out.ext uA
        have HOWN := Lib.hid hown
        unfold IRow at hown
        have HOW2 := Lib.hid hown; clear hown
        have HGA := Lib.hid (groups_ext HG1.out uA)
        have HSA := Lib.hid (HSH1.out.kept (grown_of_ext uA) hbl1 (by simp))
        go_wp2_with (at_builtin; go_loud (refine app1 _ rfl _ _ 24 3 rfl (.int .i64 0) 8 Try.underlying24 info_int rfl (w.heap.size + 1) _ ks.length _ rfl HOW2.out w1.heap.size 1 3 (.int .i64 kk) rfl (Box.new _ _ _ rfl) rfl (by omega) (by omega) (by simp; omega) ?_))
        intro g cp w3 hown3 hgrow hat3 hlt3
        have hne : some w.heap.size ≠ (Value.slice ak ks.length ck).ownBlock := fun e => by have := (HOWN.out.blk e.symm).1; omega
        have HG3 := Lib.hid (HGA.out.kept hgrow hne (HSA.out.rowsOff (fun j hj => hj)))
        have HS3 : Hid (w3.Shuns w.heap.size (fun g' => (Value.slice (some ⟨g, 0, none⟩) (ks.length + 1) cp).ownBlock = some g')) := Lib.hid ((HSA.out.reno HGA.out (fun g' hg' => by
          simp only [Value.ownBlock, Option.some.injEq] at hg'
          subst hg'
          rcases hat3 with h | h
          · exact .inl h
          · exact .inr (by simp; omega))).kept hgrow (groups_lt HGA.out) hne)
        have HR3 : Hid (IRow (w.heap.size + 1) w3 (.slice (some ⟨g, 0, none⟩) (ks.length + 1) cp) (ks ++ [kk])) := Lib.hid (IRow.push hown3)
        have hx3 := HOWN.out.grew (hx1.trans uA) (Nat.le_succ _) hgrow
        clear hown3 hgrow hat3 hne
        go_wp2_with (at_lookup; refine wpList_lookup_groups_shuns _ rfl _ _ 100 rfl 3 24 3 .i64 lawI Try.underlying100 (zeroSl _) (w.heap.size + 1) w.heap.size n D rfl HG3.out (by unfold maxLen; omega) _ _ rfl hkey ?_)
        intro v zs hat hoi hzl hback hshv
        have hzs := dat_zs (HD.out kk) hat hoi
        subst hzs
        have hnov := hshv _ HS3.out
        have HNOV := Lib.hid hnov
        have HOI := Lib.hid hoi
        have HBK := Lib.hid hback
        clear hat hoi hback hshv hnov
        have hws : w.heap.size + 1 ≤ w3.heap.size := by have := groups_lt HG3.out; omega
        go_wp2_with (at_builtin; refine wpList_append_own_at _ rfl _ _ 24 rfl (w.heap.size + 1) 3 i0 (.int .i64 0) 1 8 Try.underlying24 hi hz0 hz1 hz2 rfl (by decide) v _ _ rfl (HOI.out.1.alloc _) ⟨w3.heap.size, 0, none⟩ 1 1 [.int .i64 n] rfl rfl (cell_one_new _ _ _) (ints_oneCell .i64 [(n : Int)]) (by unfold maxLen; omega) (by omega) (by simp; omega) ?_)
        intro v' w4 hown' hgrow4 hnil hloc
        have hoi' := HOI.out.appended hown' (WalkArith.wf_i64 (by omega))
        have hv' : ∀ gq, v'.ownBlock = some gq → ¬ (Value.slice (some ⟨g, 0, none⟩) (ks.length + 1) cp).ownBlock = some gq := fun gq h1 h2 => by
          rcases hloc with h | h
          · rw [h] at h1; exact HNOV.out gq h1 h2
          · rw [h] at h1
            have := (HR3.out.blk h2).2
            simp at h1
            omega
        have HOI2 := Lib.hid hoi'
        have HV2 := Lib.hid hv'
        have HGR4 := Lib.hid hgrow4
        have HLOC := Lib.hid hloc
        clear hoi' hv' hgrow4 hown' hnil hloc
        go_wp2_with (at_mapUpdate; refine wpList_mapUpdate_back_shuns (No := fun gq => (Value.slice (some ⟨g, 0, none⟩) (ks.length + 1) cp).ownBlock = some gq) _ rfl _ _ _ 100 rfl lawI Try.underlying100 hkey HG3.out (by unfold maxLen; omega) HOI.out HS3.out HV2.out HBK.out rfl rfl rfl ((World.grownBy_alloc _ _ _).trans HGR4.out) HOI2.out (by simp; omega) (HLOC.out.imp id (fun h => ⟨_, h, by simp⟩)) ?_)
        intro w5 hown5 hgrow5 hsh5
        have HW5 : Hid (KG s l vars w.heap.size w5 (Value.slice (some ⟨g, 0, none⟩) (ks.length + 1) cp) (ks ++ [kk]) (n + 1) ∧ Ext w w5) := Lib.hid (by
          have ua := (Ext.refl w3).alloc (.cells #[.int .i64 (n : Int)] 3)
          have r1 := HR3.out.ext ua
          have r2 : IRow (w.heap.size + 1) w4 (Value.slice (some ⟨g, 0, none⟩) (ks.length + 1) cp) (ks ++ [kk]) := World.ownsRow.kept r1 HGR4.out (by
            cases hk : (Value.slice (some ⟨g, 0, none⟩) (ks.length + 1) cp).ownBlock with
            | none => exact .inl rfl
            | some gq => exact .inr (fun e => HNOV.out gq e.symm hk))
          have r3 : IRow (w.heap.size + 1) w5 (Value.slice (some ⟨g, 0, none⟩) (ks.length + 1) cp) (ks ++ [kk]) := World.ownsRow.kept r2 hgrow5 (by
            cases hk : (Value.slice (some ⟨g, 0, none⟩) (ks.length + 1) cp).ownBlock with
            | none => exact .inl rfl
            | some gq => exact .inr (fun e => by have := (r2.blk hk).1; simp at e; omega))
          refine ⟨⟨_, hown5, DatOk.step HD.out (groups_map HG3.out) HKT.out HOI2.out, r3, hsh5⟩, ?_⟩
          have x1 := (hx3.trans ua).of_upd (Upd.of_grown HGR4.out) (fun b hb => by have := (World.ownsRow.lt HOI.out.1 b hb).1; omega)
          exact x1.of_upd (Upd.of_grown hgrow5) (fun b hb => by simp at hb; omega))
        clear hown5 hsh5 hgrow5
        go_wp2
        go_roundw
        case rel => exact ⟨n + 1, by omega, by go_num, by rw [HFK.out]; exact HW5.out.1, HW5.out.2⟩
        case measure => simp [intOf]; omega
      · have HFK : Hid (fstKeys s l vars (n + 1) = fstKeys s l vars n) := Lib.hid (by rw [fstKeys, HKT.out, if_neg hnew])
        obtain ⟨gv, cv, rfl⟩ := ints_some hoi hnew
        clear hat hoi hzl hnew
        obtain ⟨ks, hks⟩ : ∃ ks, fstKeys s l vars n = ks := ⟨_, rfl⟩
        rw [hks] at HR1 HFK HSH1 hfl ⊢
        clear hks
        go_wp2_with (at_lookup; refine wpList_lookup_groups_shuns _ rfl _ _ 100 rfl 3 24 3 .i64 lawI Try.underlying100 (zeroSl _) (w.heap.size + 1) w.heap.size n D rfl HG1.out (by unfold maxLen; omega) _ _ rfl hkey ?_)
        intro v zs hat hoi hzl hback hshv
        have hzs := dat_zs (HD.out kk) hat hoi
        subst hzs
        have hnov := hshv _ HSH1.out
        have HNOV := Lib.hid hnov
        have HOI := Lib.hid hoi
        have HBK := Lib.hid hback
        clear hat hoi hback hshv hnov
        have hws : w.heap.size + 1 ≤ w1.heap.size := by have := groups_lt HG1.out; omega
        go_wp2_with (at_builtin; refine wpList_append_own_at _ rfl _ _ 24 rfl (w.heap.size + 1) 3 i0 (.int .i64 0) 1 8 Try.underlying24 hi hz0 hz1 hz2 rfl (by decide) v _ _ rfl (HOI.out.1.alloc _) ⟨w1.heap.size, 0, none⟩ 1 1 [.int .i64 n] rfl rfl (cell_one_new _ _ _) (ints_oneCell .i64 [(n : Int)]) (by unfold maxLen; omega) (by omega) (by simp; omega) ?_)
        intro v' w4 hown' hgrow4 hnil hloc
        have hoi' := HOI.out.appended hown' (WalkArith.wf_i64 (by omega))
        have hv' : ∀ gq, v'.ownBlock = some gq → ¬ (Value.slice ak ks.length ck).ownBlock = some gq := fun gq h1 h2 => by
          rcases hloc with h | h
          · rw [h] at h1; exact HNOV.out gq h1 h2
          · rw [h] at h1
            have := (HR1.out.blk h2).2
            simp at h1
            omega
        have HOI2 := Lib.hid hoi'
        have HV2 := Lib.hid hv'
        have HGR4 := Lib.hid hgrow4
        have HLOC := Lib.hid hloc
        clear hoi' hv' hgrow4 hown' hnil hloc
        go_wp2_with (at_mapUpdate; refine wpList_mapUpdate_back_shuns (No := fun gq => (Value.slice ak ks.length ck).ownBlock = some gq) _ rfl _ _ _ 100 rfl lawI Try.underlying100 hkey HG1.out (by unfold maxLen; omega) HOI.out HSH1.out HV2.out HBK.out rfl rfl rfl ((World.grownBy_alloc _ _ _).trans HGR4.out) HOI2.out (by simp; omega) (HLOC.out.imp id (fun h => ⟨_, h, by simp⟩)) ?_)
        intro w5 hown5 hgrow5 hsh5
        have HW5 : Hid (KG s l vars w.heap.size w5 (Value.slice ak ks.length ck) (ks) (n + 1) ∧ Ext w w5) := Lib.hid (by
          have ua := (Ext.refl w1).alloc (.cells #[.int .i64 (n : Int)] 3)
          have r1 := HR1.out.ext ua
          have r2 : IRow (w.heap.size + 1) w4 (Value.slice ak ks.length ck) (ks) := World.ownsRow.kept r1 HGR4.out (by
            cases hk : (Value.slice ak ks.length ck).ownBlock with
            | none => exact .inl rfl
            | some gq => exact .inr (fun e => HNOV.out gq e.symm hk))
          have r3 : IRow (w.heap.size + 1) w5 (Value.slice ak ks.length ck) (ks) := World.ownsRow.kept r2 hgrow5 (by
            cases hk : (Value.slice ak ks.length ck).ownBlock with
            | none => exact .inl rfl
            | some gq => exact .inr (fun e => by have := (r2.blk hk).1; simp at e; omega))
          refine ⟨⟨_, hown5, DatOk.step HD.out (groups_map HG1.out) HKT.out HOI2.out, r3, hsh5⟩, ?_⟩
          have x1 := (hx1.trans ua).of_upd (Upd.of_grown HGR4.out) (fun b hb => by have := (World.ownsRow.lt HOI.out.1 b hb).1; omega)
          exact x1.of_upd (Upd.of_grown hgrow5) (fun b hb => by simp at hb; omega))
        clear hown5 hsh5 hgrow5
        go_wp2
        go_roundw
        case rel => exact ⟨n + 1, by omega, by go_num, by rw [HFK.out]; exact HW5.out.1, HW5.out.2⟩
        case measure => simp [intOf]; omega
    · have hnl : n = l.length := by omega
      have HSK : Hid (sortI (fstKeys s l vars n) = keysS s l vars) := Lib.hid (by rw [hnl]; exact sortI_keys s l vars)
      have HD2 : Hid (DatOk s l vars D l.length) := Lib.hid (by rw [← hnl]; exact HD.out)
      have HKL : Hid (∀ key, key ∈ keysS s l vars → grpTo s l vars key l.length ≠ []) := Lib.hid (fun key hk => mem_grpTo.2 (mem_putL.1 hk))
      have hkn : (keysS s l vars).length ≤ 40 := by have := keysS_len s l vars; omega
      have HNK : Hid (∀ i j, i < (keysS s l vars).length → j < (keysS s l vars).length → i ≠ j → ix (keysS s l vars) i ≠ ix (keysS s l vars) j) := Lib.hid (fun i j hi hj hij => by
        have hp := incr_putL (keysL s l vars l.length)
        have hp' : (keysS s l vars).Pairwise (· < ·) := hp
        rw [List.pairwise_iff_getElem] at hp'
        rw [ix_eq hi, ix_eq hj]
        rcases Nat.lt_or_gt_of_ne hij with h | h
        · have := hp' i j hi hj h; omega
        · have := hp' j i hj hi h; omega)
      have HKB : Hid (∀ key, key ∈ keysS s l vars → (Lit.int .i64 key).wf = true) := Lib.hid (fun key hk => by
        have hm := mem_putL.1 hk
        simp only [keysL, List.mem_map, List.mem_range] at hm
        obtain ⟨i, hi', rfl⟩ := hm
        have hb : 0 ≤ keyAt s l vars i ∧ keyAt s l vars i < 262144 := (HKO.out i hi').lt vars.length (Nat.le_refl _)
        exact WalkArith.wf_i64 (by omega))
      have HGE : Hid (grps s l vars (keysS s l vars) = GG) := HGG
      clear hnl HGG
      obtain ⟨fk, hfk⟩ : ∃ ks, fstKeys s l vars n = ks := ⟨_, rfl⟩
      rw [hfk] at HR HSK hfl HSH ⊢
      clear hfk
      obtain ⟨K, hK⟩ : ∃ K, keysS s l vars = K := ⟨_, rfl⟩
      rw [hK] at HSK HKL hkn HNK HKB HGE
      clear hK
      have HLEN : Hid (fk.length = K.length) := Lib.hid (by rw [← HSK.out, sortI_len])
      have hbl := groups_lt HG.out
      have hkb : ∀ g, (Value.slice ak fk.length ck).ownBlock = some g → w.heap.size + 1 ≤ g ∧ g < wo.heap.size := fun g hg => HR.out.blk hg
      go_wp2_with fail
      refine (sort_c (w.heap.size + 1) wo.heap.size _ fk _ (HR.out.own (Nat.le_refl _)) (by omega)).mono ?_
      rintro e w2 ⟨rfl, o2, u2⟩
      have hgr2 : wo.grownBy w2 (Value.slice ak fk.length ck).ownBlock := ⟨u2.os, u2.tape, u2.output, u2.size, fun b hb hne => u2.block b hb (fun ⟨h1, h2⟩ => by
        rcases HR.out.2 with ⟨h3, h4⟩ | ⟨g, cp, cur, h3, _⟩
        · exact h1 (List.length_eq_zero_iff.1 h4)
        · rw [h3] at hne h2
          simp only [Value.ownBlock, blk, ablk] at hne h2
          exact hne (by rw [h2]))⟩
      have hne2 : some w.heap.size ≠ (Value.slice ak fk.length ck).ownBlock := fun e => by have := (hkb _ e.symm).1; omega
      have HG2 := Lib.hid (HG.out.kept hgr2 hne2 (HSH.out.rowsOff (fun j hj => hj)))
      have hx2 := hx.of_upd u2 (fun b hb => by have := (HR.out.own (hi := wo.heap.size) (Nat.le_refl _)).range hb.1; rw [hb.2]; omega)
      rw [HSK.out] at o2
      have oi := o2.ints
      obtain ⟨ao', cap', eK, cK1, cK2, gK⟩ := oi
      simp only [Value.slice.injEq] at eK
      obtain ⟨rfl, _, rfl⟩ := eK
      have GK := Lib.hid gK; clear gK o2 u2 hgr2 hne2 hkb
      rw [HLEN.out]
      obtain ⟨es, clock, hb2, F2, _, hDe, _, _, hap⟩ := HG2.out
      have HB2 := Lib.hid hb2; have HF2 := Lib.hid F2; have HDE := Lib.hid hDe; have HAP := Lib.hid hap
      clear hb2 F2 hDe hap
      go_wp2
      go_loopw [12, 48] (fun v i wr => ∃ (j : Nat) (rvs : List Value), j ≤ K.length ∧ i = .int .i64 j ∧ rvs.length = j ∧ wr.ownsRow w2.heap.size 24 1 v j rvs ∧
        (∀ t, t < j → w2.ownsInts (w.heap.size + 1) 3 .i64 (rvAt rvs t) (grpTo s l vars (ix K t) l.length) ∧ ∃ e0, e0 ∈ es.toList ∧ e0.key = .int .i64 (ix K t) ∧ e0.val = rvAt rvs t) ∧ Ext w2 wr) (fun _ i _ => K.length - (intOf i).toNat)
      case atStart => exact ⟨0, [], Nat.zero_le _, rfl, rfl, World.ownsRow_nil _ _ _ _, fun t ht => by omega, Ext.refl _⟩
      case round =>
        obtain ⟨j, rvs, hj, rfl, hrl, hsp, hrows, hy⟩ := hrel
        obtain ⟨wp, rfl⟩ : ∃ wp : World, wp = wr := ⟨_, rfl⟩
        have HRL := Lib.hid hrl; clear hrl
        have HSP := Lib.hid hsp
        have HRW := Lib.hid hrows; clear hrows
        by_cases hjl : j < K.length
        · obtain ⟨bk, ok, rfl, hck⟩ := GK.out j hjl
          replace hck := Ext.cell hy hck
          have hkm : ix K j ∈ K := ix_mem hjl
          have HGT := Lib.hid (grps_take (s := s) (l := l) (vars := vars) hjl)
          have hne := HKL.out _ hkm
          have hkey : keyOf Try.prog 3 (.int .i64 (ix K j)) = some (.int .i64 (ix K j)) := keyOf_int_mk Try.underlying3 (HKB.out _ hkm)
          have hbB : wp.heap[w.heap.size]? = some (.map es clock) := (hy.block (groups_lt HG2.out)).trans HB2.out
          rcases Maps.fit_look false lawI Try.underlying100 (zeroSl wp) hbB HF2.out hkey with ⟨_, _, hat⟩ | ⟨e0, y, he0, hek, hrun, hR, hat, _⟩
          · exfalso
            have h9 := HD2.out (ix K j)
            rw [HDE.out, hat, if_neg hne] at h9
            cases h9
          · obtain ⟨zs, hoi, rfl⟩ := rowElem_inv hR
            have hzs := dat_zs (HD2.out (ix K j)) (by rw [HDE.out]; exact hat _) hoi
            subst hzs
            clear hat hR hkey hbB
            have HE0 := Lib.hid (And.intro he0 hek)
            obtain ⟨ev, hev⟩ : ∃ ev, e0.val = ev := ⟨_, rfl⟩
            rw [hev] at hrun hoi
            have HEV := Lib.hid hev
            have HOI := Lib.hid hoi
            obtain ⟨gq, cq, rfl⟩ := ints_some hoi hne
            obtain ⟨nn, hnn⟩ : ∃ x, (grpTo s l vars (ix K j) l.length).length = x := ⟨_, rfl⟩
            have hnl : nn ≤ l.length := by rw [← hnn]; exact grpTo_len _ _ _ _ _
            rw [hnn] at hrun HOI HEV
            have HNN := Lib.hid hnn
            obtain ⟨key, hkq⟩ : ∃ x, ix K j = x := ⟨_, rfl⟩
            rw [hkq] at hck hrun
            have HKQ := Lib.hid hkq
            clear hkq hnn he0 hek hev hoi hne hkm
            have hrun' : (Instr.lookup 100 (.map (some w.heap.size)) (.int .i64 key) false).run Try.prog wp = .ok (.slice (some ⟨gq, 0, none⟩) nn cq) wp := by simpa using hrun
            clear hrun
            have us := (Ext.refl wp).alloc (.cells #[.slice (some ⟨gq, 0, none⟩) nn cq] 24)
            have hys := hy.size
            have HSQ := Lib.hid (HSP.out.alloc (.cells #[.slice (some ⟨gq, 0, none⟩) nn cq] 24))
            go_wp2_with (at_builtin; go_loud (refine app1 _ rfl _ _ 38 24 rfl (.slice none 0 0) 24 Try.underlying38 info_ints rfl w2.heap.size _ j rvs rfl HSQ.out wp.heap.size 1 24 (.slice (some ⟨gq, 0, none⟩) nn cq) rfl (Box.new _ _ _ rfl) rfl (by omega) (by omega) (by simp; omega) ?_))
            intro g cp w3 hown3 hgrow hat3 hlt3
            have HX3 := Lib.hid ((hy.trans us).of_upd (Upd.of_grown hgrow) (fun b hb => (World.ownsRow.lt HSQ.out b hb).1))
            have HO3 := Lib.hid hown3
            have HRW2 : Hid (∀ t, t < j + 1 → w2.ownsInts (w.heap.size + 1) 3 .i64 (rvAt (rvs ++ [.slice (some ⟨gq, 0, none⟩) nn cq]) t) (grpTo s l vars (ix K t) l.length) ∧ ∃ e0, e0 ∈ es.toList ∧ e0.key = .int .i64 (ix K t) ∧ e0.val = rvAt (rvs ++ [.slice (some ⟨gq, 0, none⟩) nn cq]) t) := Lib.hid (fun t ht => by
              by_cases e : t = j
              · subst e
                have h9 : rvAt (rvs ++ [Value.slice (some ⟨gq, 0, none⟩) nn cq]) t = Value.slice (some ⟨gq, 0, none⟩) nn cq := by have := @rvAt_append_len rvs (Value.slice (some ⟨gq, 0, none⟩) nn cq); rwa [HRL.out] at this
                rw [h9]
                exact ⟨HOI.out, e0, HE0.out.1, HE0.out.2, HEV.out⟩
              · have h9 : rvAt (rvs ++ [Value.slice (some ⟨gq, 0, none⟩) nn cq]) t = rvAt rvs t := rvAt_append_left (by rw [HRL.out]; omega)
                rw [h9]
                exact HRW.out t (by omega))
            clear hown3 hgrow hat3
            go_wp2
            go_roundw
            case rel => exact ⟨j + 1, _, by omega, by go_num, by simp [HRL.out], HO3.out, HRW2.out, HX3.out⟩
            case measure => simp [intOf]; omega
        · have hjk : j = K.length := by omega
          have hgl : (grps s l vars K).length = K.length := by simp [grps]
          have hra : ∀ k, k < K.length → rowAt (grps s l vars K) k = grpTo s l vars (ix K k) l.length := fun k hk => by simp [rowAt, grps, ix, List.getD, hk]
          have hog : OwnG w.heap.size wp.heap.size wp _ rvs (grps s l vars K) := OwnG.of_ownsRow (HSP.out.mono hx2.size) (by rw [hgl, hjk]) (Nat.le_refl _)
            (fun k hk => by
              rw [hgl] at hk
              rw [hra k hk]
              exact (((Own.of_ownsRow (hi := w2.heap.size) (HRW.out k (by omega)).1.1 (Nat.le_refl _)).ext hy).mono (by omega) hy.size))
            (fun a b ha hb hab h1 h2 => by
              rw [hgl] at ha hb
              rw [hra a ha] at h1
              rw [hra b hb] at h2
              obtain ⟨oa, ea, ma, ka, va⟩ := HRW.out a (by omega)
              obtain ⟨ob, eb, mb, kb, vb⟩ := HRW.out b (by omega)
              have hk : ea.key ≠ eb.key := fun e => HNK.out a b ha hb hab (by rw [ka, kb] at e; injection e)
              have h9 := HAP.out ea ma eb mb hk
              rw [va, vb] at h9
              obtain ⟨ga, ca, qa⟩ := ints_some oa h1
              obtain ⟨gb, cb, qb⟩ := ints_some ob h2
              rw [qa, qb] at h9 ⊢
              simpa [Value.ownBlock, blk, ablk] using h9)
          rw [HGE.out] at hog
          have HOG := Lib.hid hog
          clear hog hra hgl
          go_wp2
          go_ret
          exact ⟨_, rvs, rfl, HOG.out, hx2.trans hy⟩
end Go.Proofs.Ytkkoidoinbiikaa
