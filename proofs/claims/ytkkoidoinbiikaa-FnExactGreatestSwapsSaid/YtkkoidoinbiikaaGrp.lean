/- KeyGroups: the groups of records with one key, plain; the spec's swGroups and KeyGroups. -/
import Derived.Test.YtkkoidoinbiikaaRate
import Derived.Test.YtkkoidoinbiikaaCand
namespace Go.Proofs.Ytkkoidoinbiikaa
open Go.RowKit

def keyAt (s : List Vr) (l : List Pe) (vars : List Int) (i : Nat) : Int := keyL s (peAt l i).vals vars
/-- the keys of the first n records -/
def keysL (s : List Vr) (l : List Pe) (vars : List Int) (n : Nat) : List Int := (List.range n).map (keyAt s l vars)
theorem keysL_zero (s : List Vr) (l : List Pe) (vars : List Int) : keysL s l vars 0 = [] := rfl
theorem keysL_succ (s : List Vr) (l : List Pe) (vars : List Int) (n : Nat) : keysL s l vars (n + 1) = keysL s l vars n ++ [keyAt s l vars n] := by simp [keysL, List.range_succ]
theorem keysL_len (s : List Vr) (l : List Pe) (vars : List Int) (n : Nat) : (keysL s l vars n).length = n := by simp [keysL]
/-- those of the first n records that have a key -/
def grpTo (s : List Vr) (l : List Pe) (vars : List Int) (key : Int) (n : Nat) : List Int := ((List.range n).filter fun i : Nat => decide (keyAt s l vars i = key)).map fun i : Nat => (i : Int)
theorem grpTo_zero (s : List Vr) (l : List Pe) (vars : List Int) (key : Int) : grpTo s l vars key 0 = [] := rfl
theorem grpTo_yes {s : List Vr} {l : List Pe} {vars : List Int} {key : Int} {n : Nat} (h : keyAt s l vars n = key) : grpTo s l vars key (n + 1) = grpTo s l vars key n ++ [(n : Int)] := by simp [grpTo, List.range_succ, List.filter_append, h]
theorem grpTo_no {s : List Vr} {l : List Pe} {vars : List Int} {key : Int} {n : Nat} (h : keyAt s l vars n ≠ key) : grpTo s l vars key (n + 1) = grpTo s l vars key n := by simp [grpTo, List.range_succ, List.filter_append, h]
theorem grpTo_len (s : List Vr) (l : List Pe) (vars : List Int) (key : Int) (n : Nat) : (grpTo s l vars key n).length ≤ n := by
  have := List.length_filter_le (fun i => decide (keyAt s l vars i = key)) (List.range n)
  simpa [grpTo] using this
/-- the groups of some keys -/
def grps (s : List Vr) (l : List Pe) (vars ks : List Int) : List (List Int) := ks.map fun key => grpTo s l vars key l.length
theorem grps_take {s : List Vr} {l : List Pe} {vars ks : List Int} {k : Nat} (hk : k < ks.length) : grps s l vars (ks.take (k + 1)) = grps s l vars (ks.take k) ++ [grpTo s l vars (ix ks k) l.length] := by
  simp [grps, take_succ_ix hk]
/-- all keys, strictly rising -/
def keysS (s : List Vr) (l : List Pe) (vars : List Int) : List Int := putL (keysL s l vars l.length)
theorem keysS_len (s : List Vr) (l : List Pe) (vars : List Int) : (keysS s l vars).length ≤ l.length := by
  have h1 := len_putL_le (keysL s l vars l.length)
  rw [keysL_len] at h1; exact h1
noncomputable def kgB (s : List Vr) (l : List Pe) (vars : List Int) : Bool := inB s l vars
noncomputable def kgV (s : List Vr) (l : List Pe) (vars : List Int) : List (List Int) := if inB s l vars = true then grps s l vars (keysS s l vars) else []

theorem GRow.form {lo hi : Nat} {w : World} {v : Value} {rvs : List Value} {xss : List (List Int)} (h : GRow lo hi w v rvs xss) : ∃ a c, v = .slice a xss.length c := by
  rcases h.own.2 with ⟨h1, h2⟩ | ⟨g, cp, cur, h1, _⟩
  · exact ⟨none, 0, by rw [h1, h2]⟩
  · exact ⟨_, _, h1⟩
set_option maxHeartbeats 3200000 in
theorem swGroups_c (v1 v2 v3 : Value) (s : List Vr) (l : List Pe) (vars : List Int) (w : World) (h1 : Vrs w v1 s) (h2 : Pes w v2 l) (h3 : Ints w v3 vars) (h40 : l.length ≤ 40) (hko : ∀ k, k < l.length → KeyOk s (peAt l k).vals vars) :
    Calls Try.prog 54 #[v1, v2, v3] w (RetGrid (fun v' => v') w (grps s l vars (keysS s l vars))) := by
  have H1 := Lib.hid h1; clear h1
  have H3 := Lib.hid h3; clear h3
  obtain ⟨a2, c2, rfl, e1, e2, g2⟩ := h2
  have G2 := Lib.hid g2; clear g2
  have HKO := Lib.hid hko; clear hko
  obtain ⟨K, hK⟩ : ∃ K, keysS s l vars = K := ⟨_, rfl⟩
  have hkl2 : K.length ≤ l.length := by rw [← hK]; exact keysS_len s l vars
  rw [hK]
  have HKK := Lib.hid hK; clear hK
  go_enter Try.func54, Try.ntmps54
  go_wp2
  go_loopw [7, 18] (fun u i wr => ∃ k : Nat, k ≤ l.length ∧ i = .int .i64 k ∧ Ints wr u (putL (keysL s l vars k)) ∧ Ext w wr) (fun _ i _ => l.length - (intOf i).toNat)
  case atStart => exact ⟨0, Nat.zero_le _, rfl, Ints.nil _, Ext.refl _⟩
  case round =>
    obtain ⟨k, hk, rfl, hu, hx⟩ := hrel
    obtain ⟨wo, rfl⟩ : ∃ wo : World, wo = wr := ⟨_, rfl⟩
    have hul := len_putL_le (keysL s l vars k)
    rw [keysL_len] at hul
    have HU := Lib.hid hu; clear hu
    by_cases hlt : k < l.length
    · obtain ⟨b, o, ar, cr, rfl, hc0, hc1, hc2, r1, r2, r3⟩ := (G2.out.ext hx).at_ hlt
      have HI : Hid (Ints wo (.slice ar (peAt l k).vals.length cr) (peAt l k).vals) := Lib.hid ⟨ar, cr, rfl, r1, r2, r3⟩
      clear r3
      have HKS : Hid (putL (keysL s l vars (k + 1)) = putI (putL (keysL s l vars k)) (keyAt s l vars k)) := Lib.hid (by rw [keysL_succ, putL_snoc])
      have ub := (Ext.refl wo).alloc (.cells #[.int .i64 (peAt l k).area, .int .i64 (peAt l k).house, .slice ar (peAt l k).vals.length cr] 50)
      go_wp2_with fail
      refine (swKey_c _ _ _ s (peAt l k).vals vars _ (H1.out.ext (hx.trans ub)) (HI.out.ext ub) (H3.out.ext (hx.trans ub)) (HKO.out k hlt)).mono ?_
      rintro e w1 ⟨rfl, u1⟩
      go_wp2_with fail
      refine (l1Put_c _ (putL (keysL s l vars k)) (keyAt s l vars k) _ (HU.out.ext (ub.trans u1)) (by omega)).mono ?_
      rintro e w2 ⟨y2, rfl, i2, u2⟩
      have I2 := Lib.hid i2; clear i2
      go_wp2
      go_roundw
      case rel => exact ⟨k + 1, by omega, by go_num, by rw [HKS.out]; exact I2.out, ((hx.trans ub).trans u1).trans u2⟩
      case measure => simp [intOf]; omega
    · have hkl : k = l.length := by omega
      have HKE : Hid (putL (keysL s l vars k) = K) := Lib.hid (by rw [hkl, ← HKK.out]; rfl)
      rw [HKE.out] at HU hul
      clear hkl HKE
      have hu := HU.out
      obtain ⟨au, cu, rfl, k1, k2, gu⟩ := hu
      have GU := Lib.hid gu; clear gu
      go_wp2
      go_loopw [10, 32] (fun v i wr => ∃ (j : Nat) (rvs : List Value), j ≤ K.length ∧ i = .int .i64 j ∧ GRow wo.heap.size wr.heap.size wr v rvs (grps s l vars (K.take j)) ∧ Ext wo wr) (fun _ i _ => K.length - (intOf i).toNat)
      case atStart => exact ⟨0, [], Nat.zero_le _, rfl, GRow.nil, Ext.refl _⟩
      case round =>
        obtain ⟨j, rvs, hj, rfl, hg, hy⟩ := hrel
        obtain ⟨wp, rfl⟩ : ∃ wp : World, wp = wr := ⟨_, rfl⟩
        have HG := Lib.hid hg
        have hxy := hx.trans hy
        have hs := hy.size
        by_cases hjl : j < K.length
        · obtain ⟨bk, ok, rfl, hck⟩ := GU.out j hjl
          replace hck := Ext.cell hy hck
          have HGT := Lib.hid (grps_take (s := s) (l := l) (vars := vars) hjl)
          have hgl : (grps s l vars (K.take j)).length = j := by simp [grps]; omega
          obtain ⟨key, hkey⟩ : ∃ key, ix K j = key := ⟨_, rfl⟩
          rw [hkey] at hck HGT
          clear hkey
          obtain ⟨gv, hgv⟩ : ∃ G, grps s l vars (K.take j) = G := ⟨_, rfl⟩
          rw [hgv] at HG HGT hgl
          clear hgv hg
          obtain ⟨av, cv, rfl⟩ := HG.out.form
          rw [hgl] at HG ⊢
          have HGL := Lib.hid hgl; clear hgl
          go_wp2
          go_loopw [13, 38] (fun g i wr => ∃ k : Nat, k ≤ l.length ∧ i = .int .i64 k ∧ IRow wp.heap.size wr g (grpTo s l vars key k) ∧ Ext wp wr) (fun _ i _ => l.length - (intOf i).toNat)
          case atStart => exact ⟨0, Nat.zero_le _, rfl, IRow.nil, Ext.refl _⟩
          case round =>
            obtain ⟨k, hk, rfl, hr, hz⟩ := hrel
            obtain ⟨wi, rfl⟩ : ∃ wi : World, wi = wr := ⟨_, rfl⟩
            have HR := Lib.hid hr
            obtain ⟨ag, cg, rfl⟩ := hr.form
            clear hr
            have hgl := grpTo_len s l vars key k
            have hw := hxy.trans hz
            by_cases hlt2 : k < l.length
            · obtain ⟨b, o, ar, cr, rfl, hc0, hc1, hc2, r1, r2, r3⟩ := (G2.out.ext hw).at_ hlt2
              have HI : Hid (Ints wi (.slice ar (peAt l k).vals.length cr) (peAt l k).vals) := Lib.hid ⟨ar, cr, rfl, r1, r2, r3⟩
              clear r3
              have ub := (Ext.refl wi).alloc (.cells #[.int .i64 (peAt l k).area, .int .i64 (peAt l k).house, .slice ar (peAt l k).vals.length cr] 50)
              obtain ⟨kk, hkk⟩ : ∃ x, keyL s (peAt l k).vals vars = x := ⟨_, rfl⟩
              have HKA := Lib.hid hkk
              have hka : keyAt s l vars k = kk := hkk
              clear hkk
              obtain ⟨L, hL⟩ : ∃ L, grpTo s l vars key k = L := ⟨_, rfl⟩
              by_cases he : kk = key
              · have HGY := Lib.hid (grpTo_yes (s := s) (l := l) (vars := vars) (key := key) (n := k) (by rw [hka]; exact he))
                have heq : (kk == key) = true := by simp [he]
                rw [hL] at HR HGY hgl ⊢
                clear he hka hL
                go_wp2_with fail
                refine (swKey_c _ _ _ s (peAt l k).vals vars _ (H1.out.ext (hw.trans ub)) (HI.out.ext ub) (H3.out.ext (hw.trans ub)) (HKO.out k hlt2)).mono ?_
                rw [HKA.out]
                rintro e w1 ⟨rfl, u1⟩
                have ux := ub.trans u1
                have hown := HR.out.ext (ux.alloc (.cells #[.int .i64 k] 3))
                have HOWN := Lib.hid hown
                unfold IRow at hown
                have HOW2 := Lib.hid hown; clear hown
                have hss := (hz.trans ux).size
                go_wp2_with (at_builtin; go_loud (refine app1 _ rfl _ _ 24 3 rfl (.int .i64 0) 8 Try.underlying24 info_int rfl wp.heap.size _ L.length _ rfl HOW2.out w1.heap.size 1 3 (.int .i64 k) rfl (Box.new _ _ _ rfl) rfl (by omega) (by omega) (by simp; omega) ?_))
                intro g cp w3 hown3 hgrow hat hlt3
                have hx3 := HOWN.out.grew (hz.trans (ux.alloc _)) (Nat.le_refl _) hgrow
                have HO3 := Lib.hid hown3; clear hown3
                have HX3 := Lib.hid hx3; clear hx3
                clear hgrow
                go_wp2
                go_roundw
                case rel => exact ⟨k + 1, by omega, by go_num, by rw [HGY.out]; exact IRow.push HO3.out, HX3.out⟩
                case measure => simp [intOf]; omega
              · have HGN := Lib.hid (grpTo_no (s := s) (l := l) (vars := vars) (key := key) (n := k) (by rw [hka]; exact he))
                have heq : (kk == key) = false := by simp [he]
                clear he hka hL
                go_wp2_with fail
                refine (swKey_c _ _ _ s (peAt l k).vals vars _ (H1.out.ext (hw.trans ub)) (HI.out.ext ub) (H3.out.ext (hw.trans ub)) (HKO.out k hlt2)).mono ?_
                rw [HKA.out]
                rintro e w1 ⟨rfl, u1⟩
                have ux := ub.trans u1
                go_wp2
                go_roundw
                case rel => exact ⟨k + 1, by omega, by go_num, by rw [HGN.out]; exact HR.out.ext ux, hz.trans ux⟩
                case measure => simp [intOf]; omega
            · have hkl3 : k = l.length := by omega
              rw [hkl3] at HR hgl ⊢
              clear hkl3
              obtain ⟨R, hR⟩ : ∃ R, grpTo s l vars key l.length = R := ⟨_, rfl⟩
              rw [hR] at HR HGT hgl ⊢
              clear hR
              have us := (Ext.refl wi).alloc (.cells #[.slice ag R.length cg] 24)
              have hown := ((HG.out.ext hz).ext us).own
              rw [HGL.out] at hown
              have HOWN := Lib.hid hown; clear hown
              have hsz := hz.size
              go_wp2_with (at_builtin; go_loud (refine app1 _ rfl _ _ 38 24 rfl (.slice none 0 0) 24 Try.underlying38 info_ints rfl wo.heap.size _ j rvs rfl HOWN.out wi.heap.size 1 24 (.slice ag R.length cg) rfl (Box.new _ _ _ rfl) rfl (by omega) (by omega) (by simp; omega) ?_))
              intro g cp w3 hown3 hgrow hat hlt3
              have hsg := hgrow.size
              have hsg2 : wi.heap.size ≤ w3.heap.size := by simp at hsg; omega
              have gn := ((HG.out.ext hz).ext us).push (hi' := w3.heap.size) (x := .slice ag R.length cg) (r := R) hs (((HR.out.own (Nat.le_refl _)).ext us).mono (Nat.le_refl _) hsg2) (by omega) hgrow (by rw [HGL.out]; exact hown3)
              have hx3 := ((HG.out.ext hz).ext us).grew ((hy.trans hz).trans us) (Nat.le_refl _) hgrow
              have GN := Lib.hid gn; clear gn
              have HX3 := Lib.hid hx3; clear hx3
              clear hgrow hown3 hsg
              go_wp2
              go_roundw
              case rel => exact ⟨j + 1, _, by omega, by go_num, by rw [HGT.out]; exact GN.out, HX3.out⟩
              case measure => simp [intOf]; omega
        · have hjk : j = K.length := by omega
          have hfull : K.take j = K := List.take_of_length_le (by omega)
          rw [hfull] at HG
          have hlen : (grps s l vars K).length = K.length := by simp [grps]
          obtain ⟨av, cv, rfl⟩ := hg.form
          have hog := (HG.out.ownG (hi' := wp.heap.size) (Nat.le_refl _) (Nat.le_refl _)).mono (lo' := w.heap.size) hx.size (Nat.le_refl _)
          have HOG := Lib.hid hog
          clear hg hog hfull
          go_wp2
          go_ret
          exact ⟨_, rvs, rfl, HOG.out, hxy⟩
end Go.Proofs.Ytkkoidoinbiikaa
