/- The network of an attack, the spec's: qNetwork. -/
import Derived.Test.YtodnkahnbidgaaaAtk
import Derived.Test.YtodnkahnbidgaaaNet
import Derived.Deep.CutRange
namespace Go.Proofs.Ytodnkahnbidgaaa
open Go.RowKit

/-- two slices of ints that grow side by side in blocks of their own -/
structure Two (wM wr : World) (a b : Value) (xs ys : List Int) : Prop where
  ra : IRow wM.heap.size wr a xs
  rb : IRow wM.heap.size wr b ys
  d : ∀ c, a.ownBlock = some c → b.ownBlock ≠ some c
  ext : Ext wM wr
namespace Two
variable {wM wr wb w3 : World} {a b : Value} {xs ys : List Int} {g n cp : Nat} {x : Int}
theorem nil (w : World) : Two w w (.slice none 0 0) (.slice none 0 0) [] [] := ⟨IRow.nil, IRow.nil, fun c h => by simp [Value.ownBlock] at h, Ext.refl w⟩
theorem ext' (h : Two wM wr a b xs ys) (E : Ext wr wb) : Two wM wb a b xs ys := ⟨h.ra.ext E, h.rb.ext E, h.d, h.ext.trans E⟩
theorem addA (h : Two wM wb a b xs ys) (hn : xs.length = n) (hg : wb.grownBy w3 a.ownBlock) (hat : a.ownBlock = some g ∨ g = wb.heap.size)
    (hown : w3.ownsRow wM.heap.size 3 1 (.slice (some ⟨g, 0, none⟩) (n + 1) cp) (n + 1) (xs.map (Value.int .i64) ++ [.int .i64 x])) : Two wM w3 (.slice (some ⟨g, 0, none⟩) (n + 1) cp) b (xs ++ [x]) ys :=
  ⟨IRow.push (by rw [hn]; exact hown), h.rb.keepInts hg h.d, fun c e => by
    simp only [Value.ownBlock, Option.some.injEq] at e
    subst e
    rcases hat with e | e
    · exact h.d _ e
    · intro e2; have := (h.rb.blk e2).2; omega, h.ra.grew h.ext (Nat.le_refl _) hg⟩
theorem swap (h : Two wM wr a b xs ys) : Two wM wr b a ys xs := ⟨h.rb, h.ra, fun c e e2 => h.d c e2 e, h.ext⟩
end Two

set_option maxHeartbeats 12800000 in
theorem qNetwork_c (v1 : Value) (x : List (List Int)) (v2 : Value) (p : List (List Int)) (w : World) (h1 : Grid w v1 x) (h2 : Grid w v2 p) (hq : pubB x p = true) :
    Calls Try.prog 22 #[v1, v2] w fun e w' => ∃ v', e = .returned v' ∧ TrN w.heap.size w'.heap.size w' v' (atkT x p) ∧ Ext w w' := by
  have H1 := Lib.hid h1
  obtain ⟨ax, cx, rfl, hx1, hx2, hx3⟩ := h1
  have GX := Lib.hid hx3; clear hx3
  obtain ⟨ap, cap, rfl, hp1, hp2, hp3⟩ := h2
  have GP := Lib.hid hp3; clear hp3
  have sh := pubB_shape hq
  have hx8 := sh.2.2.1
  have hxn := sh.2.2.2.1
  have HSH : Hid (p.length = x.length ∧ ∀ k, k < x.length → (rowAt x k).length ≤ 8 ∧ 1 ≤ (rowAt x k).length ∧ (rowAt p k).length = (rowAt x k).length) := Lib.hid ⟨sh.2.1, sh.2.2.2.2⟩
  clear sh
  have HM := Lib.hid (pub_matOk hq); clear hq
  have u0 := (Ext.refl w).alloc (.cells #[.slice none 0 0, .slice none 0 0, .slice none 0 0, .slice none 0 0] 38)
  have b0 := Box.new w 38 #[.slice none 0 0, .slice none 0 0, .slice none 0 0, .slice none 0 0] rfl
  have z0 : (w.alloc (.cells #[.slice none 0 0, .slice none 0 0, .slice none 0 0, .slice none 0 0] 38)).heap.size = w.heap.size + 1 := by simp
  have u1 := u0.alloc (.cells #[.slice none 0 0, .slice none 0 0, .slice none 0 0, .slice none 0 0] 38)
  have b1 := Box.new (w.alloc (.cells #[.slice none 0 0, .slice none 0 0, .slice none 0 0, .slice none 0 0] 38)) 38 #[.slice none 0 0, .slice none 0 0, .slice none 0 0, .slice none 0 0] (b := w.heap.size + 1) (by simp)
  have hstart : NetA (w.alloc (.cells #[.slice none 0 0, .slice none 0 0, .slice none 0 0, .slice none 0 0] 38)) (w.heap.size + 1) (rowS x) (mapG (atkLo p) x) (mapG (atkHi p) x) 0 0 0 (w.heap.size + 2) (w.heap.size + 2) ((w.alloc (.cells #[.slice none 0 0, .slice none 0 0, .slice none 0 0, .slice none 0 0] 38)).alloc (.cells #[.slice none 0 0, .slice none 0 0, .slice none 0 0, .slice none 0 0] 38)) (.slice none 0 0) (.slice none 0 0) (.slice none 0 0) [] [] :=
    ⟨b1, IRow.nil, GRow.nil, GRow.nil, fun b e => by simp [Value.ownBlock] at e, fun b e => by simp [Value.ownBlock] at e, fun b e => by simp [Value.ownBlock] at e, (Ext.refl _).alloc _, by simp, by simp, by simp, by simp⟩
  have HST := Lib.hid hstart; clear hstart
  go_enter Try.func22, Try.ntmps22
  go_wp2
  go_loopw [16] (fun i wr => ∃ (k : Nat) (rv lv hv : Value) (rl rh : List Value) (HL HH : Nat), k ≤ x.length ∧ i = .int .i64 k ∧ NetA (w.alloc (.cells #[.slice none 0 0, .slice none 0 0, .slice none 0 0, .slice none 0 0] 38)) (w.heap.size + 1) (rowS x) (mapG (atkLo p) x) (mapG (atkHi p) x) k k k HL HH wr rv lv hv rl rh ∧ w.heap.size + 2 ≤ HL ∧ w.heap.size + 2 ≤ HH) (fun i _ => x.length - (intOf i).toNat)
  case atStart => exact ⟨0, _, _, _, _, _, _, _, Nat.zero_le _, rfl, HST.out, Nat.le_refl _, Nat.le_refl _⟩
  case round =>
    obtain ⟨k, rv, lv, hv, rl, rh, HL, HH, hk, rfl, hA, hHL, hHH⟩ := hrel
    obtain ⟨wo, rfl⟩ : ∃ wo : World, wo = wr := ⟨_, rfl⟩
    have HA := Lib.hid hA; clear hA
    by_cases hlt : k < x.length
    · have hxo := u0.trans HA.out.ext
      obtain ⟨b, o, ar, cr, rfl, hc0, r1, r2, r3⟩ := GX.out.at_ hlt
      have hc := Ext.cell hxo hc0
      have R3 := Lib.hid r3; clear r3
      have hltp : k < p.length := by have := HSH.out.1; omega
      obtain ⟨bp, op, ap2, cp2, rfl, hcp0, p1, p2, p3⟩ := GP.out.at_ hltp
      have P3 := Lib.hid p3; clear p3
      have SO := Lib.hid (HM.out.rowSumOk hlt)
      have HRK := Lib.hid (HSH.out.2 k hlt)
      have cb := HA.out.box.cell 0 (by simp)
      have hszo := HA.out.sz
      have hown := HA.out.rows
      have htk : ((rowS x).take k).length = k := by simp [rowS_length]; omega
      unfold IRow at hown
      rw [htk] at hown
      have HOWN := Lib.hid hown; clear hown htk
      obtain ⟨S, hS⟩ : ∃ S, (rowAt x k).sum = S := ⟨_, rfl⟩
      have HS := Lib.hid hS; clear hS
      have cb2 := Ext.cell ((Ext.refl wo).alloc (.cells #[.int .i64 S] 3)) cb
      go_upto_region 5 with fail
      go_cut [16] from 16 to 70 (fun s16 wx => s16 = .int .i64 k ∧ ∃ rv' : Value, NetA (w.alloc (.cells #[.slice none 0 0, .slice none 0 0, .slice none 0 0, .slice none 0 0] 38)) (w.heap.size + 1) (rowS x) (mapG (atkLo p) x) (mapG (atkHi p) x) (k + 1) k k HL HH wx rv' lv hv rl rh)
      case first =>
        go_region_law (first
          | (go_simp; go_at_call 66; refine (tSum_c _ (rowAt x k) _ (Ints.ext (⟨ar, cr, rfl, r1, r2, R3.out⟩ : Ints w _ _) hxo.drew) SO.out).mono ?_; rw [HS.out]; rintro e w4 ⟨rfl, rfl⟩)
          | (refine app1s _ (by rfl) _ _ 36 3 (by rfl) (.int .i64 0) 8 Try.underlying36 info_int rfl (w.heap.size + 1 + 1) _ k _ (by rfl) (HOWN.out.kept (row := none) ⟨((Ext.refl wo).drew.alloc _).os, ((Ext.refl wo).drew.alloc _).tape, ((Ext.refl wo).drew.alloc _).output, ((Ext.refl wo).drew.alloc _).size, fun k hk _ => ((Ext.refl wo).drew.alloc _).block hk⟩ (by cases (Value.ownBlock _) <;> simp)) wo.heap.size 1 3 (.int .i64 S) (by rfl) (Box.new _ _ _ rfl) rfl (by omega) (by omega) (by simp; omega) ?_; intro g cp w3 hown3 hgrow hat hlt3
             have E1 := (Ext.refl wo).drew.alloc (.cells #[.int .i64 S] 3)
             have hb3 := (HA.out.rows.ext E1).box hgrow (by omega) (HA.out.box.ext E1)
             have c3 := hb3.cell 0 (by simp)
             have f3 := hb3.free 0))
        all_goals
          have hA1 := (HA.out.ext' E1).addRow (by rw [rowS_length]; exact hlt) hgrow hat (by rw [ix_rowS hlt, HS.out]; exact hown3)
          have HA1 := Lib.hid hA1; clear hA1
          go_wp2_with fail
          go_meet
          exact ⟨rfl, _, HA1.out⟩
      case rest =>
        obtain ⟨rfl, rv', hA1⟩ := hcut
        obtain ⟨wM, rfl⟩ : ∃ wM : World, wM = wc := ⟨_, rfl⟩
        have HA1 := Lib.hid hA1; clear hA1
        have hx1' := u0.trans HA1.out.ext
        clear cb cb2 HOWN hc
        go_wp2
        go_loopw [8, 9, 30] (fun lo hi i wr => ∃ l : Nat, l ≤ (rowAt x k).length ∧ i = .int .i64 l ∧ Two wM wr lo hi ((rowF (atkLo p) x k).take l) ((rowF (atkHi p) x k).take l)) (fun _ _ i _ => (rowAt x k).length - (intOf i).toNat)
        case atStart => exact ⟨0, Nat.zero_le _, rfl, by simpa using Two.nil wM⟩
        case round =>
          obtain ⟨l, hl, rfl, hT⟩ := hrel
          obtain ⟨wi, rfl⟩ : ∃ wi : World, wi = wr := ⟨_, rfl⟩
          have HT := Lib.hid hT; clear hT
          have hr8 := HRK.out.1
          by_cases hl2 : l < (rowAt x k).length
          · have hl2p : l < (rowAt p k).length := by have := HRK.out.2.2; omega
            have hxi := hx1'.trans HT.out.ext
            obtain ⟨bx, ox, rfl, hcx0⟩ := R3.out l hl2
            obtain ⟨bq, oq, rfl, hcq0⟩ := P3.out l hl2p
            have hcx := Ext.cell hxi hcx0
            have hcq := Ext.cell hxi hcq0
            have hcp := Ext.cell hxi hcp0
            clear hxi
            have hsM := HT.out.ext.size
            have htl1 : ((rowF (atkLo p) x k).take l).length = l := by simp [rowF_length]; omega
            have htl2 : ((rowF (atkHi p) x k).take l).length = l := by simp [rowF_length]; omega
            have hown1 := HT.out.ra
            unfold IRow at hown1
            rw [htl1] at hown1
            have HOWN1 := Lib.hid hown1; clear hown1
            have HTL1 := Lib.hid htl1; clear htl1
            have HTL2 := Lib.hid htl2; clear htl2
            by_cases hone : ix (rowAt p k) l = 1
            · have hq1 : (ix (rowAt p k) l == 1) = true := by simp [hone]
              have HL := Lib.hid (show atkLo p k l (ix (rowAt x k) l) = 0 by simp [atkLo, hone])
              have HH := Lib.hid (show atkHi p k l (ix (rowAt x k) l) = 100000 by simp [atkHi, hone])
              clear hone
              go_wp2_with (at_builtin; go_loud (refine app1 _ rfl _ _ 36 3 rfl (.int .i64 0) 8 Try.underlying36 info_int rfl wM.heap.size _ l _ rfl (HOWN1.out.kept (row := none) ⟨((Ext.refl _).alloc _).os, ((Ext.refl _).alloc _).tape, ((Ext.refl _).alloc _).output, ((Ext.refl _).alloc _).size, fun k hk _ => ((Ext.refl _).alloc _).block hk⟩ (by cases (Value.ownBlock _) <;> simp)) wi.heap.size 1 3 (.int .i64 0) rfl (Box.new _ _ _ rfl) rfl (by omega) (by omega) (by simp; omega) ?_))
              intro g cp w3 hown3 hgrow hat hlt3
              have T3 := (HT.out.ext' ((Ext.refl wi).alloc (.cells #[.int .i64 0] 3))).addA (x := 0) HTL1.out hgrow (hat.imp id (fun e => e.trans (by simp))) (by rw [List.map_take]; exact hown3)
              have hs3 := T3.ext.size
              have hown2 := T3.rb
              unfold IRow at hown2
              rw [HTL2.out] at hown2
              have HOWN2 := Lib.hid hown2; clear hown2
              have HT3 := Lib.hid T3; clear T3
              clear hgrow hat hown3
              go_wp2_with (at_builtin; go_loud (refine app1 _ rfl _ _ 36 3 rfl (.int .i64 0) 8 Try.underlying36 info_int rfl wM.heap.size _ l _ rfl (HOWN2.out.kept (row := none) ⟨((Ext.refl _).alloc _).os, ((Ext.refl _).alloc _).tape, ((Ext.refl _).alloc _).output, ((Ext.refl _).alloc _).size, fun k hk _ => ((Ext.refl _).alloc _).block hk⟩ (by cases (Value.ownBlock _) <;> simp)) w3.heap.size 1 3 (.int .i64 100000) rfl (Box.new _ _ _ rfl) rfl (by omega) (by omega) (by simp; omega) ?_))
              intro g6 cp6 w6 hown6 hgrow6 hat6 hlt6
              have T6 := ((HT3.out.swap.ext' ((Ext.refl w3).alloc (.cells #[.int .i64 100000] 3))).addA (x := 100000) HTL2.out hgrow6 (hat6.imp id (fun e => e.trans (by simp))) (by rw [List.map_take]; exact hown6)).swap
              have HT6 := Lib.hid T6; clear T6
              clear hgrow6 hat6 hown6
              go_wp2
              go_roundw
              case rel => exact ⟨l + 1, by omega, by go_num, by rw [rowF_take_succ hl2, rowF_take_succ hl2, HL.out, HH.out]; exact HT6.out⟩
              case measure => simp [intOf]; omega
            · have hq1 : (ix (rowAt p k) l == 1) = false := by simp [hone]
              have HL := Lib.hid (show atkLo p k l (ix (rowAt x k) l) = ix (rowAt x k) l by simp [atkLo, hone])
              have HH := Lib.hid (show atkHi p k l (ix (rowAt x k) l) = ix (rowAt x k) l by simp [atkHi, hone])
              clear hone
              go_wp2_with (at_builtin; go_loud (refine app1 _ rfl _ _ 36 3 rfl (.int .i64 0) 8 Try.underlying36 info_int rfl wM.heap.size _ l _ rfl (HOWN1.out.kept (row := none) ⟨((Ext.refl _).alloc _).os, ((Ext.refl _).alloc _).tape, ((Ext.refl _).alloc _).output, ((Ext.refl _).alloc _).size, fun k hk _ => ((Ext.refl _).alloc _).block hk⟩ (by cases (Value.ownBlock _) <;> simp)) wi.heap.size 1 3 (.int .i64 (ix (rowAt x k) l)) rfl (Box.new _ _ _ rfl) rfl (by omega) (by omega) (by simp; omega) ?_))
              intro g cp w3 hown3 hgrow hat hlt3
              have T3 := (HT.out.ext' ((Ext.refl wi).alloc (.cells #[.int .i64 (ix (rowAt x k) l)] 3))).addA (x := (ix (rowAt x k) l)) HTL1.out hgrow (hat.imp id (fun e => e.trans (by simp))) (by rw [List.map_take]; exact hown3)
              have hs3 := T3.ext.size
              have hown2 := T3.rb
              unfold IRow at hown2
              rw [HTL2.out] at hown2
              have HOWN2 := Lib.hid hown2; clear hown2
              have HT3 := Lib.hid T3; clear T3
              clear hgrow hat hown3
              go_wp2_with (at_builtin; go_loud (refine app1 _ rfl _ _ 36 3 rfl (.int .i64 0) 8 Try.underlying36 info_int rfl wM.heap.size _ l _ rfl (HOWN2.out.kept (row := none) ⟨((Ext.refl _).alloc _).os, ((Ext.refl _).alloc _).tape, ((Ext.refl _).alloc _).output, ((Ext.refl _).alloc _).size, fun k hk _ => ((Ext.refl _).alloc _).block hk⟩ (by cases (Value.ownBlock _) <;> simp)) w3.heap.size 1 3 (.int .i64 (ix (rowAt x k) l)) rfl (Box.new _ _ _ rfl) rfl (by omega) (by omega) (by simp; omega) ?_))
              intro g6 cp6 w6 hown6 hgrow6 hat6 hlt6
              have T6 := ((HT3.out.swap.ext' ((Ext.refl w3).alloc (.cells #[.int .i64 (ix (rowAt x k) l)] 3))).addA (x := (ix (rowAt x k) l)) HTL2.out hgrow6 (hat6.imp id (fun e => e.trans (by simp))) (by rw [List.map_take]; exact hown6)).swap
              have HT6 := Lib.hid T6; clear T6
              clear hgrow6 hat6 hown6
              go_wp2
              go_roundw
              case rel => exact ⟨l + 1, by omega, by go_num, by rw [rowF_take_succ hl2, rowF_take_succ hl2, HL.out, HH.out]; exact HT6.out⟩
              case measure => simp [intOf]; omega
          · have hf1 : (rowF (atkLo p) x k).take l = rowF (atkLo p) x k := List.take_of_length_le (by rw [rowF_length]; omega)
            have hf2 : (rowF (atkHi p) x k).take l = rowF (atkHi p) x k := List.take_of_length_le (by rw [rowF_length]; omega)
            have hT := HT.out
            rw [hf1, hf2] at hT
            clear HT hf1 hf2
            obtain ⟨la, lc, rfl⟩ := hT.ra.form
            obtain ⟨ha, hc, rfl⟩ := hT.rb.form
            have OL := Lib.hid (hT.ra.own (Nat.le_refl _))
            have OH := Lib.hid (hT.rb.own (Nat.le_refl _))
            have hsM := hT.ext.size
            have A1 := HA1.out.ext' hT.ext
            clear hT
            have hsz1 := A1.sz
            have cb := A1.box.cell 2 (by simp)
            have htk : ((mapG (atkLo p) x).take k).length = k := by simp [mapG_length]; omega
            have htk2 : ((mapG (atkHi p) x).take k).length = k := by simp [mapG_length]; omega
            have E2 := (Ext.refl wi).alloc (.cells #[.slice la (rowF (atkLo p) x k).length lc] 36)
            have A2 := A1.ext' E2
            have hown := A2.lo.own
            rw [htk] at hown
            have HOWN := Lib.hid hown; clear hown
            have HTK2 := Lib.hid htk2; clear htk2 htk
            have HA2 := Lib.hid A2; clear A2 A1
            go_upto_region 16 with fail
            go_cut [16] from 16 to 70 (fun s16 wx => s16 = .int .i64 k ∧ ∃ (lv' : Value) (rl' : List Value) (HL' : Nat), NetA (w.alloc (.cells #[.slice none 0 0, .slice none 0 0, .slice none 0 0, .slice none 0 0] 38)) (w.heap.size + 1) (rowS x) (mapG (atkLo p) x) (mapG (atkHi p) x) (k + 1) (k + 1) k HL' HH wx rv' lv' hv rl' rh ∧ w.heap.size + 2 ≤ HL' ∧ wi.heap.size ≤ wx.heap.size ∧ Own wM.heap.size wi.heap.size wx (.slice ha (rowF (atkHi p) x k).length hc) (rowF (atkHi p) x k))
            case first =>
              go_wp2_with (at_builtin; go_loud (refine app1 _ rfl _ _ 22 36 rfl (.slice none 0 0) 24 Try.underlying22 info_ints rfl (w.heap.size + 1 + 1) _ k rl rfl HOWN.out wi.heap.size 1 36 (.slice la (rowF (atkLo p) x k).length lc) rfl (Box.new _ _ _ rfl) rfl (by omega) (by omega) (by simp; omega) ?_))
              intro g cp w3 hown3 hgrow hat hlt3
              have hb3 := HA2.out.box.upd (Upd.of_grown hgrow) (fun e => by have := (HA2.out.lo.blk e).1; omega)
              have c3 := hb3.cell 2 (by simp)
              have f3 := hb3.free 2
              have hsE := E2.size
              have A3 := HA2.out.addLo (M := wM.heap.size) (by rw [mapG_length]; exact hlt) (by rw [rowAt_mapG hlt]; exact (OL.out.ext E2).mono (Nat.le_refl _) hsE) HA1.out.bl (fun b e => (HA1.out.rows.blk e).2) hHL hgrow (hat.imp id (fun e => e.trans (by simp))) hown3
              have OH3 := Lib.hid (((OH.out.ext E2).keepSpine HA2.out.lo.own hgrow).put_away ⟨w.heap.size + 1, 2, none⟩ (.slice (some ⟨g, 0, none⟩) (k + 1) cp) (.inl (by have := HA1.out.sz; simp only; omega)))
              have hs3 := hgrow.size
              simp at hs3
              have HA3 := Lib.hid A3; clear A3
              have HB3 := Lib.hid hb3; clear hb3
              clear hgrow hat hown3
              go_wp2_with fail
              go_meet
              exact ⟨rfl, _, _, _, HA3.out, by omega, by simp [World.setCell]; omega, OH3.out⟩
            case rest =>
              obtain ⟨rfl, lv', rl', HL', hA4, hHL', hszi, hO4⟩ := hcut
              obtain ⟨wj, rfl⟩ : ∃ wj : World, wj = wc := ⟨_, rfl⟩
              have cb := hA4.box.cell 3 (by simp)
              have hsz5 := hA4.sz
              have E5 := (Ext.refl wj).alloc (.cells #[.slice ha (rowF (atkHi p) x k).length hc] 36)
              have A5 := hA4.ext' E5
              have hown := A5.hi.own
              rw [HTK2.out] at hown
              have HOWN5 := Lib.hid hown; clear hown
              have HO4 := Lib.hid hO4; clear hO4
              have HA5 := Lib.hid A5; clear A5
              have HA4 := Lib.hid hA4; clear hA4
              clear HA2 HOWN
              go_wp2_with (at_builtin; go_loud (refine app1 _ rfl _ _ 22 36 rfl (.slice none 0 0) 24 Try.underlying22 info_ints rfl (w.heap.size + 1 + 1) _ k rh rfl HOWN5.out wj.heap.size 1 36 (.slice ha (rowF (atkHi p) x k).length hc) rfl (Box.new _ _ _ rfl) rfl (by omega) (by omega) (by simp; omega) ?_))
              intro g cp w3 hown3 hgrow hat hlt3
              have hb3 := HA5.out.box.upd (Upd.of_grown hgrow) (fun e => by have := (HA5.out.hi.blk e).1; omega)
              have c3 := hb3.cell 3 (by simp)
              have f3 := hb3.free 3
              have hsE := E5.size
              have A6 := HA5.out.addHi (M := wM.heap.size) (by rw [mapG_length]; exact hlt) (by rw [rowAt_mapG hlt]; exact (HO4.out.ext E5).mono (Nat.le_refl _) (Nat.le_trans hszi hsE)) HA1.out.bh (fun b e => (HA1.out.rows.blk e).2) hHH hgrow (hat.imp id (fun e => e.trans (by simp))) hown3
              have hs3 := hgrow.size
              simp at hs3
              have hmi := HA1.out.bh
              have HA6 := Lib.hid A6; clear A6
              have HB3 := Lib.hid hb3; clear hb3
              clear hgrow hat hown3
              go_wp2
              go_roundw
              case rel => exact ⟨k + 1, _, _, _, _, _, _, _, by omega, by go_num, HA6.out, hHL', by omega⟩
              case measure => simp [intOf]; omega
    · have hk' : k = x.length := by omega
      have e1 : (rowS x).take k = rowS x := List.take_of_length_le (by rw [rowS_length]; omega)
      have e2 : (mapG (atkLo p) x).take k = mapG (atkLo p) x := List.take_of_length_le (by rw [mapG_length]; omega)
      have e3 : (mapG (atkHi p) x).take k = mapG (atkHi p) x := List.take_of_length_le (by rw [mapG_length]; omega)
      clear hk'
      have h0 := HA.out.rows
      have h1' := HA.out.lo
      have h2' := HA.out.hi
      rw [e1] at h0
      rw [e2] at h1'
      rw [e3] at h2'
      clear e1 e2 e3
      have hbl := HA.out.bl
      have hbh := HA.out.bh
      have OR := Lib.hid (h0.own (Nat.le_refl _))
      have OLO := Lib.hid (h1'.ownG (Nat.le_refl _) hbl)
      have OHI := Lib.hid (h2'.ownG (Nat.le_refl _) hbh)
      obtain ⟨ra, rc, rfl⟩ := h0.form
      obtain ⟨la, lc, rfl, _, _, qq⟩ := h1'.ownG (Nat.le_refl _) hbl
      clear qq
      obtain ⟨ha, hc, rfl, _, _, qq⟩ := h2'.ownG (Nat.le_refl _) hbh
      clear qq h0 h1' h2'
      have hxo := u0.trans HA.out.ext
      have hszo := HA.out.sz
      have bR := b0.ext HA.out.ext
      have BX := Lib.hid HA.out.box
      clear HA
      obtain ⟨b, o, ar0, cr0, rfl, hc0, q1, q2, q3⟩ := (GX.out.ext hxo).at0 (by omega)
      clear q3
      have x0 : (0 : Int) < (x.length : Int) := by omega
      have HROW := Lib.hid HM.out.row
      have hm8 := HM.out.m8
      obtain ⟨m, hm⟩ : ∃ m, (rowAt x 0).length = m := ⟨_, rfl⟩
      rw [hm] at hc0 q1 hm8
      have HMM := Lib.hid hm; clear hm
      go_wp2
      go_loopw [75] (fun i wr => ∃ (l : Nat) (cv : Value), l ≤ m ∧ i = .int .i64 l ∧ Box wr (w.heap.size + 1) 38 #[.slice ra (rowS x).length rc, cv, .slice la (mapG (atkLo p) x).length lc, .slice ha (mapG (atkHi p) x).length hc] ∧ IRow wo.heap.size wr cv ((colS x m).take l) ∧ Upd (fun b => b = w.heap.size + 1) wo wr) (fun i _ => m - (intOf i).toNat)
      case atStart => exact ⟨0, _, Nat.zero_le _, rfl, BX.out, by simpa using IRow.nil, Upd.refl _⟩
      case round =>
        obtain ⟨l, cv, hl, rfl, hb, hr, hU⟩ := hrel
        obtain ⟨wi, rfl⟩ : ∃ wi : World, wi = wr := ⟨_, rfl⟩
        have HR := Lib.hid hr
        have hx2 := hxo.of_upd hU (fun b hb => by omega)
        have hszi := hU.size
        by_cases hlt2 : l < m
        · have htk : ((colS x m).take l).length = l := by simp [colS_length]; omega
          have hown := hr
          unfold IRow at hown
          rw [htk] at hown
          have HOWN := Lib.hid hown; clear hown hr
          have HTK := Lib.hid htk; clear htk
          have SO := Lib.hid (HM.out.colSumOk (j := l) (by rw [HMM.out]; exact hlt2))
          have cb := hb.cell 1 (by simp)
          have HB := Lib.hid hb; clear hb
          obtain ⟨S, hS⟩ : ∃ S, (colOf x l).sum = S := ⟨_, rfl⟩
          have HS := Lib.hid hS; clear hS
          clear hc0
          go_wp2_with fail
          go_region_law (first
            | (go_simp; go_at_call 67; refine (tColumn_c _ x l _ (H1.out.ext hx2.drew) (by omega) (fun i hi => by rw [HROW.out i hi, HMM.out]; exact hlt2)).mono ?_; rintro e w4 ⟨v4, rfl, o4, u4⟩
               have cb4 := Ext.cell u4 (show wi.drew.cell? _ = _ from cb)
               have cb5 := Ext.cell ((Ext.refl w4).alloc (.cells #[.int .i64 S] 3)) cb4)
            | (go_simp; go_at_call 66; refine (tSum_c _ (colOf x l) _ o4.ints SO.out).mono ?_; rw [HS.out]; rintro e w4 ⟨rfl, rfl⟩)
            | (refine app1s _ (by rfl) _ _ 36 3 (by rfl) (.int .i64 0) 8 Try.underlying36 info_int rfl wo.heap.size _ l _ (by rfl) (HOWN.out.kept (row := none) ⟨(((Ext.refl wi).drew.trans u4).alloc _).os, (((Ext.refl wi).drew.trans u4).alloc _).tape, (((Ext.refl wi).drew.trans u4).alloc _).output, (((Ext.refl wi).drew.trans u4).alloc _).size, fun k hk _ => (((Ext.refl wi).drew.trans u4).alloc _).block hk⟩ (by cases (Value.ownBlock _) <;> simp)) w4.heap.size 1 3 (.int .i64 S) (by rfl) (Box.new _ _ _ rfl) rfl (by omega) (by omega) (by have := u4.size; simp at this; simp; omega) ?_; intro g cp w3 hown3 hgrow hat hlt3
               have E1 := ((Ext.refl wi).drew.trans u4).alloc (.cells #[.int .i64 S] 3)
               have hb3 := (HR.out.ext E1).box hgrow (by omega) (HB.out.ext E1)
               have c3 := hb3.cell 1 (by simp)
               have f3 := hb3.free 1))
          all_goals
            have hIR : IRow wo.heap.size w3 (.slice (some ⟨g, 0, none⟩) (l + 1) cp) ((colS x m).take (l + 1)) := by
              rw [take_succ_ix (by rw [colS_length]; exact hlt2), ix_colS hlt2, HS.out]
              exact IRow.push (by rw [HTK.out]; exact hown3)
            have hU3 : Upd (fun b => b = w.heap.size + 1) wo w3 := ⟨hgrow.os.trans (Upd.os (Ext.upd E1 (S := fun b => b = w.heap.size + 1)) |>.trans hU.os), hgrow.tape.trans ((Upd.tape E1).trans hU.tape), hgrow.output.trans ((Upd.output E1).trans hU.output), Nat.le_trans hU.size (Nat.le_trans (Upd.size E1) hgrow.size), fun k hk hn => by
              rw [hgrow.block k (by have := Upd.size E1; omega) (fun e => by have := ((HR.out.ext E1).blk e.symm).1; omega), Ext.block E1 (by omega)]; exact hU.block k hk hn⟩
            have HH := Lib.hid (And.intro hIR hU3); clear hIR hU3
            have HB3 := Lib.hid hb3; clear hb3 o4
            go_wp2
            go_roundw
            case rel => exact ⟨l + 1, _, by omega, by go_num, HB3.out.set 1 _, HH.out.1.put (by simp; omega) _, HH.out.2.setCell _ (fun _ => rfl)⟩
            case measure => simp [intOf]; omega
        · have hkk : (colS x m).take l = colS x m := List.take_of_length_le (by rw [colS_length]; omega)
          rw [hkk] at hr
          have OC0 := Lib.hid (hr.own (Nat.le_refl _))
          obtain ⟨ca, cc, rfl⟩ := hr.form
          clear hr HR hkk
          have k0 := hb.cell 0 (by simp)
          have k1 := hb.cell 1 (by simp)
          have k2 := hb.cell 2 (by simp)
          have k3 := hb.cell 3 (by simp)
          have br := bR.upd hU (by omega)
          have f0 := br.free 0
          have f1 := br.free 1
          have f2 := br.free 2
          have f3 := br.free 3
          have g0 := br.cell 0 (by simp)
          have g1 := br.cell 1 (by simp)
          have g2 := br.cell 2 (by simp)
          have g3 := br.cell 3 (by simp)
          have P0 := (OR.out.away hU (fun b hb => .inl (by omega))).put4 (B := w.heap.size) (by omega) (.slice ra (rowS x).length rc) (.slice ca (colS x m).length cc) (.slice la (mapG (atkLo p) x).length lc) (.slice ha (mapG (atkHi p) x).length hc)
          have P1 := OC0.out.put4 (B := w.heap.size) (by omega) (.slice ra (rowS x).length rc) (.slice ca (colS x m).length cc) (.slice la (mapG (atkLo p) x).length lc) (.slice ha (mapG (atkHi p) x).length hc)
          have P2 := (OLO.out.away hU (fun b hb => .inl (by omega))).put4 (B := w.heap.size) (by omega) (.slice ra (rowS x).length rc) (.slice ca (colS x m).length cc) (.slice la (mapG (atkLo p) x).length lc) (.slice ha (mapG (atkHi p) x).length hc)
          have P3 := (OHI.out.away hU (fun b hb => .inl (by omega))).put4 (B := w.heap.size) (by omega) (.slice ra (rowS x).length rc) (.slice ca (colS x m).length cc) (.slice la (mapG (atkLo p) x).length lc) (.slice ha (mapG (atkHi p) x).length hc)
          have hs := put4_size wi w.heap.size (.slice ra (rowS x).length rc) (.slice ca (colS x m).length cc) (.slice la (mapG (atkLo p) x).length lc) (.slice ha (mapG (atkHi p) x).length hc)
          have t0 := Nat.le_trans hszi (Nat.le_of_eq hs.symm)
          have t1 := Nat.le_of_eq hs.symm
          have HP := Lib.hid (And.intro P0 (And.intro P1 (And.intro P2 P3))); clear P0 P1 P2 P3 hs
          go_wp2
          refine bodyPost_ret (v := .agg #[.slice ra (rowS x).length rc, .slice ca (colS x m).length cc, .slice la (mapG (atkLo p) x).length lc, .slice ha (mapG (atkHi p) x).length hc]) (by simp [results, Try.results22, go_sem, g0, g1, g2, g3]) rfl ⟨_, rfl, ?_, hx2.put4 (Nat.le_refl _) _ _ _ _⟩
          have hT : atkT x p = ⟨rowS x, colS x m, mapG (atkLo p) x, mapG (atkHi p) x⟩ := by unfold atkT; rw [HMM.out]
          rw [hT]
          exact ⟨_, _, _, _, rl, rh, rfl, HP.out.1.mono (by omega) t0, HP.out.2.1.mono (by omega) t1, HP.out.2.2.1.mono (by omega) t0, HP.out.2.2.2.mono (by omega) t0⟩
end Go.Proofs.Ytodnkahnbidgaaa
