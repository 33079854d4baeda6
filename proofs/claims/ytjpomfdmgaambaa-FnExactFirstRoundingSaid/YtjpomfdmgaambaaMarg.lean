/- Matrices with their sums: the program's 'summed', the spec's 'oMargins'. -/
import Derived.Test.YtjpomfdmgaambaaMat
import Derived.Test.YtjpomfdmgaambaaSums
import Derived.Test.YtjpomfdmgaambaaHold
import Derived.Test.YtjpomfdmgaambaaRd
import Derived.Deep.RegionLaw
import Derived.OwnWalk
namespace Go.Proofs.Ytjpomfdmgaambaa
open Go.RowKit

structure MatOk (x : List (List Int)) (m : Nat) : Prop where
  n1 : 1 ≤ x.length
  n8 : x.length ≤ 8
  m1 : 1 ≤ m
  m8 : m ≤ 8
  row : ∀ k, k < x.length → (rowAt x k).length = m
  el : ∀ k l, k < x.length → l < m → -1000000 ≤ ix (rowAt x k) l ∧ ix (rowAt x k) l ≤ 1000000
namespace MatOk
variable {x : List (List Int)} {m : Nat}
theorem tame (h : MatOk x m) : Tame x := ⟨by have := h.n8; omega, fun i hi => ⟨by have := h.row i hi; have := h.m8; omega, fun j hj => h.el i j hi (by have := h.row i hi; omega)⟩⟩
theorem rowSumOk (h : MatOk x m) {k : Nat} (hk : k < x.length) : SumOk (rowAt x k) := sumOk_of (h.tame.row hk)
theorem colSumOk (h : MatOk x m) {j : Nat} (hj : j < m) : SumOk (colOf x j) := sumOk_of (h.tame.col (fun i hi => by rw [h.row i hi]; exact hj))
theorem rowS_bound (h : MatOk x m) : ∀ y ∈ rowS x, -1000000000 ≤ y ∧ y ≤ 1000000000 := fun y hy => by
  obtain ⟨i, hi, rfl⟩ := List.getElem_of_mem hy
  have hi' := hi
  rw [rowS_length] at hi'
  have h1 := h.tame.row hi' (rowAt x i).length
  rw [List.take_length] at h1
  rw [← ix_eq hi, ix_rowS hi']; exact h1
theorem sumOk (h : MatOk x m) : SumOk (rowS x) := SumOk.of_bound (B := 1000000000) (by omega) h.rowS_bound (n := 8) (by rw [rowS_length]; exact h.n8) (by omega)
end MatOk
def margD (x : List (List Int)) (m : Nat) : Rd := ⟨x, rowS x, colS x m, (rowS x).sum⟩

set_option maxHeartbeats 3200000 in
theorem summed_c (v : Value) (x : List (List Int)) (m : Nat) (w : World) (h : Grid w v x) (hm : MatOk x m) :
    Calls Try.prog 79 #[v] w fun e w' => ∃ v', e = .returned v' ∧ RdO w.heap.size w'.heap.size w' v' (margD x m) ∧ Ext w w' := by
  have H := Lib.hid h; clear h
  have HM := Lib.hid hm; clear hm
  have u0 := (Ext.refl w).alloc (.cells #[.slice none 0 0, .slice none 0 0, .slice none 0 0, .int .i64 0] 44)
  have b0 := Box.new w 44 #[.slice none 0 0, .slice none 0 0, .slice none 0 0, .int .i64 0] rfl
  have SZ0 : Hid ((w.alloc (.cells #[.slice none 0 0, .slice none 0 0, .slice none 0 0, .int .i64 0] 44)).heap.size = w.heap.size + 1) := Lib.hid (by simp)
  go_enter Try.func79, Try.ntmps79
  go_wp2_with fail
  refine (rowSums_c _ x _ (H.out.ext u0) HM.out.tame).mono ?_
  rintro e w1 ⟨v1, rfl, o1, u1⟩
  have O1 := Lib.hid o1
  obtain ⟨a1, c1, rfl, _, _, qq⟩ := o1; clear qq
  have V1 := u0.trans u1
  go_wp2_with fail
  refine (copyMatrix_c _ x _ (H.out.ext V1) (by have := HM.out.n8; omega) (fun k hk => by have := HM.out.row k hk; have := HM.out.m8; omega) (fun k hk e => by have := HM.out.row k hk; have := HM.out.m1; rw [e] at *; simp at *; omega)).mono ?_
  rintro e w2 ⟨v2, r2, rfl, o2, u2⟩
  have O2 := Lib.hid o2
  obtain ⟨a2, c2, rfl, _, _, qq⟩ := o2; clear qq
  have V2 := V1.trans u2
  go_wp2_with fail
  refine (colSums_c _ x m _ (H.out.ext V2) HM.out.tame (by have := HM.out.n1; omega) HM.out.row).mono ?_
  rintro e w3 ⟨v3, rfl, o3, u3⟩
  have O3 := Lib.hid o3
  obtain ⟨a3, c3, rfl, _, _, qq⟩ := o3; clear qq
  have V3 := V2.trans u3
  have SZ1 := Lib.hid u1.size
  have SZ2 := Lib.hid u2.size
  have SZ3 := Lib.hid u3.size
  have b3 := ((b0.ext u1).ext u2).ext u3
  go_wp2_with fail
  refine (total_c _ (rowS x) _ (O1.out.ext (u2.trans u3)).ints HM.out.sumOk).mono ?_
  rintro e w3 ⟨rfl, rfl⟩
  have f0 := b3.free 0
  have f1 := b3.free 1
  have f2 := b3.free 2
  have f3 := b3.free 3
  have k0 := b3.cell 0 (by simp)
  have k1 := b3.cell 1 (by simp)
  have k2 := b3.cell 2 (by simp)
  have k3 := b3.cell 3 (by simp)
  go_wp2
  refine bodyPost_ret (v := .agg #[.slice a2 x.length c2, .slice a1 (rowS x).length c1, .slice a3 (colS x m).length c3, .int .i64 (rowS x).sum]) (by simp [results, Try.results79, go_sem, k0, k1, k2, k3]) rfl ⟨_, rfl, ?_, V3.put4 (Nat.le_refl _) _ _ _ _⟩
  have s0 := SZ0.out
  have s1 := SZ1.out
  have s2 := SZ2.out
  have s3 := SZ3.out
  have P1 := (O1.out.ext (u2.trans u3)).put4 (B := w.heap.size) (by omega) (.slice a2 x.length c2) (.slice a1 (rowS x).length c1) (.slice a3 (colS x m).length c3) (.int .i64 (rowS x).sum)
  have P2 := (O2.out.ext u3).put4 (B := w.heap.size) (by omega) (.slice a2 x.length c2) (.slice a1 (rowS x).length c1) (.slice a3 (colS x m).length c3) (.int .i64 (rowS x).sum)
  have P3 := O3.out.put4 (B := w.heap.size) (by omega) (.slice a2 x.length c2) (.slice a1 (rowS x).length c1) (.slice a3 (colS x m).length c3) (.int .i64 (rowS x).sum)
  have hs := put4_size w3 w.heap.size (.slice a2 x.length c2) (.slice a1 (rowS x).length c1) (.slice a3 (colS x m).length c3) (.int .i64 (rowS x).sum)
  have t1 := Nat.le_trans (Nat.le_trans s2 s3) (Nat.le_of_eq hs.symm)
  have t2 := Nat.le_trans s3 (Nat.le_of_eq hs.symm)
  have t3 := Nat.le_of_eq hs.symm
  refine ⟨_, _, _, _, r2, rfl, P2.mono (by omega) t2, P1.mono (by omega) t1, P3.mono (by omega) t3, ?_, ?_, ?_, rfl⟩
  · exact fun b h1 h2 => by have := P2.inside h1; have := P1.inside h2; omega
  · exact fun b h1 h2 => by have := P2.inside h1; have := P3.inside h2; omega
  · exact fun b h1 h2 => by have := P1.inside h1; have := P3.inside h2; omega

set_option maxHeartbeats 3200000 in
theorem oMargins_c (v : Value) (x : List (List Int)) (m : Nat) (w : World) (h : Grid w v x) (hm : MatOk x m) :
    Calls Try.prog 65 #[v] w fun e w' => ∃ v', e = .returned v' ∧ RdN w.heap.size w'.heap.size w' v' (margD x m) ∧ Ext w w' := by
  have H := Lib.hid h
  obtain ⟨ax, cx, rfl, hx1, hx2, hx3⟩ := h
  have GX := Lib.hid hx3; clear hx3
  have n8 := hm.n8
  have n1 := hm.n1
  have m8 := hm.m8
  have HM := Lib.hid hm; clear hm
  have u0 := (Ext.refl w).alloc (.cells #[.slice none 0 0, .slice none 0 0, .slice none 0 0, .int .i64 0] 44)
  have b0 := Box.new w 44 #[.slice none 0 0, .slice none 0 0, .slice none 0 0, .int .i64 0] rfl
  have SZ0 : Hid ((w.alloc (.cells #[.slice none 0 0, .slice none 0 0, .slice none 0 0, .int .i64 0] 44)).heap.size = w.heap.size + 1) := Lib.hid (by simp)
  go_enter Try.func65, Try.ntmps65
  go_wp2_with fail
  refine (tOwn_c _ x _ (H.out.ext u0) (by omega) (fun k hk => by have := HM.out.row k hk; omega) (fun k hk e => by have := HM.out.row k hk; have := HM.out.m1; rw [e] at *; simp at *; omega)).mono ?_
  rintro e w1 ⟨v1, r1, rfl, o1, u1⟩
  have O1 := Lib.hid o1
  obtain ⟨a1, c1, rfl, _, _, qq⟩ := o1; clear qq
  have V1 := u0.trans u1
  have b1 := b0.ext u1
  have SZ1 := Lib.hid u1.size
  have bo := Box.new w1 44 #[.slice a1 x.length c1, .slice none 0 0, .slice none 0 0, .int .i64 0] rfl
  have hbB : w.heap.size < w1.heap.size := by have := SZ0.out; have := SZ1.out; omega
  have uW := (Ext.refl w1).alloc (.cells #[.slice a1 x.length c1, .slice none 0 0, .slice none 0 0, .int .i64 0] 44)
  have OW := Lib.hid ((O1.out.ext uW).mono (Nat.le_refl _) (Nat.le_succ _))
  go_wp2
  go_loopw [12] (fun i wr => ∃ (k : Nat) (rv : Value), k ≤ x.length ∧ i = .int .i64 k ∧ Box wr w1.heap.size 44 #[.slice a1 x.length c1, rv, .slice none 0 0, .int .i64 0] ∧ IRow (w1.heap.size + 1) wr rv ((rowS x).take k) ∧ Ext w wr ∧ Ext w1 wr ∧ w1.heap.size + 1 ≤ wr.heap.size) (fun i _ => x.length - (intOf i).toNat)
  case atStart => exact ⟨0, _, Nat.zero_le _, rfl, bo, by simpa using IRow.nil, V1.trans uW, uW, by simp⟩
  case round =>
    obtain ⟨k, rv, hk, rfl, hb, hr, hx, hx1', hsz⟩ := hrel
    obtain ⟨wo, rfl⟩ : ∃ wo : World, wo = wr := ⟨_, rfl⟩
    have HR := Lib.hid hr
    by_cases hlt : k < x.length
    · obtain ⟨b, o, ar, cr, rfl, hc, q1, q2, q3⟩ := (GX.out.ext hx).at_ hlt
      have R3 := Lib.hid q3; clear q3
      have htk : ((rowS x).take k).length = k := by simp [rowS_length]; omega
      have hown := hr
      unfold IRow at hown
      rw [htk] at hown
      have HOWN := Lib.hid hown; clear hown hr
      have HTK := Lib.hid htk; clear htk
      have SO := Lib.hid (HM.out.rowSumOk hlt)
      have cb := hb.cell 1 (by simp)
      have HB := Lib.hid hb; clear hb
      obtain ⟨S, hS⟩ : ∃ S, (rowAt x k).sum = S := ⟨_, rfl⟩
      have HS := Lib.hid hS; clear hS
      have cb2 := Ext.cell ((Ext.refl wo).alloc (.cells #[.int .i64 S] 3)) cb
      go_wp2_with fail
      go_region_law (first
        | (go_simp; go_at_call 52; refine (tSum_c _ (rowAt x k) _ (Ints.ext (⟨ar, cr, rfl, q1, q2, R3.out⟩ : Ints wo _ _) (Ext.refl _).drew) SO.out).mono ?_; rw [HS.out]; rintro e w4 ⟨rfl, rfl⟩)
        | (refine app1s _ (by rfl) _ _ 22 3 (by rfl) (.int .i64 0) 8 Try.underlying22 info_int rfl (w1.heap.size + 1) _ k _ (by rfl) (HOWN.out.kept (row := none) ⟨((Ext.refl wo).drew.alloc _).os, ((Ext.refl wo).drew.alloc _).tape, ((Ext.refl wo).drew.alloc _).output, ((Ext.refl wo).drew.alloc _).size, fun k hk _ => ((Ext.refl wo).drew.alloc _).block hk⟩ (by cases (Value.ownBlock _) <;> simp)) wo.heap.size 1 3 (.int .i64 S) (by rfl) (Box.new _ _ _ rfl) rfl (by omega) (by omega) (by simp; omega) ?_; intro g cp w3 hown3 hgrow hat hlt3
           have E1 := (Ext.refl wo).drew.alloc (.cells #[.int .i64 S] 3)
           have hb3 := (HR.out.ext E1).box hgrow (by omega) (HB.out.ext E1)
           have c3 := hb3.cell 1 (by simp)
           have f3 := hb3.free 1))
      all_goals
        have hsz3 := hgrow.size
        simp at hsz3
        have hIR : IRow (w1.heap.size + 1) w3 (.slice (some ⟨g, 0, none⟩) (k + 1) cp) ((rowS x).take (k + 1)) := by
          rw [take_succ_ix (by rw [rowS_length]; exact hlt), ix_rowS hlt, HS.out]
          exact IRow.push (by rw [HTK.out]; exact hown3)
        have hxg := (HR.out.ext E1).grew (hx.trans E1) (by omega) hgrow
        have hxg1 := (HR.out.ext E1).grew (hx1'.trans E1) (by omega) hgrow
        have HH := Lib.hid (And.intro hIR (And.intro hxg hxg1)); clear hIR hxg hxg1
        have HB3 := Lib.hid hb3; clear hb3
        go_wp2
        go_roundw
        case rel => exact ⟨k + 1, _, by omega, by go_num, HB3.out.set 1 _, HH.out.1.put (by simp) _, HH.out.2.1.setCell _ (by simp; omega), HH.out.2.2.setCell _ (by simp), by simp [World.setCell]; omega⟩
        case measure => simp [intOf]; omega
    · have hkk : (rowS x).take k = rowS x := List.take_of_length_le (by rw [rowS_length]; omega)
      rw [hkk] at hr HR
      have OR0 := Lib.hid (hr.own (Nat.le_refl _))
      obtain ⟨ra, rc, rfl⟩ := hr.form
      clear hr HR hkk
      obtain ⟨b, o, ar0, cr0, rfl, hc0, q1, q2, q3⟩ := (GX.out.ext hx).at0 (by omega)
      clear q3
      have x0 : (0 : Int) < (x.length : Int) := by omega
      have hrow0 := HM.out.row 0 (by omega)
      rw [hrow0] at hc0 q1
      have HR0 := Lib.hid hrow0; clear hrow0
      have HBX := Lib.hid hb; clear hb
      go_wp2
      go_loopw [28] (fun i wr => ∃ (l : Nat) (rv : Value), l ≤ m ∧ i = .int .i64 l ∧ Box wr w1.heap.size 44 #[.slice a1 x.length c1, .slice ra (rowS x).length rc, rv, .int .i64 0] ∧ IRow wo.heap.size wr rv ((colS x m).take l) ∧ Own (w1.heap.size + 1) wo.heap.size wr (.slice ra (rowS x).length rc) (rowS x) ∧ Ext w wr ∧ Ext w1 wr ∧ wo.heap.size ≤ wr.heap.size) (fun i _ => m - (intOf i).toNat)
      case atStart => exact ⟨0, _, Nat.zero_le _, rfl, HBX.out, by simpa using IRow.nil, OR0.out, hx, hx1', Nat.le_refl _⟩
      case round =>
        obtain ⟨l, rv, hl, rfl, hb, hr, hro, hx2, hx3, hsz2⟩ := hrel
        obtain ⟨wi, rfl⟩ : ∃ wi : World, wi = wr := ⟨_, rfl⟩
        have HR := Lib.hid hr
        have ORW := Lib.hid hro; clear hro
        by_cases hlt2 : l < m
        · have htk : ((colS x m).take l).length = l := by simp [colS_length]; omega
          have hown := hr
          unfold IRow at hown
          rw [htk] at hown
          have HOWN := Lib.hid hown; clear hown hr
          have HTK := Lib.hid htk; clear htk
          have SO := Lib.hid (HM.out.colSumOk hlt2)
          have cb := hb.cell 2 (by simp)
          have HB := Lib.hid hb; clear hb
          obtain ⟨S, hS⟩ : ∃ S, (colOf x l).sum = S := ⟨_, rfl⟩
          have HS := Lib.hid hS; clear hS
          clear hc0
          go_wp2_with fail
          go_region_law (first
            | (go_simp; go_at_call 53; refine (tColumn_c _ x l _ (H.out.ext hx2.drew) (by omega) (fun i hi => by rw [HM.out.row i hi]; exact hlt2)).mono ?_; rintro e w4 ⟨v4, rfl, o4, u4⟩
               have cb4 := Ext.cell u4 (show wi.drew.cell? _ = _ from cb)
               have cb5 := Ext.cell ((Ext.refl w4).alloc (.cells #[.int .i64 S] 3)) cb4)
            | (go_simp; go_at_call 52; refine (tSum_c _ (colOf x l) _ o4.ints SO.out).mono ?_; rw [HS.out]; rintro e w4 ⟨rfl, rfl⟩)
            | (refine app1s _ (by rfl) _ _ 22 3 (by rfl) (.int .i64 0) 8 Try.underlying22 info_int rfl wo.heap.size _ l _ (by rfl) (HOWN.out.kept (row := none) ⟨(((Ext.refl wi).drew.trans u4).alloc _).os, (((Ext.refl wi).drew.trans u4).alloc _).tape, (((Ext.refl wi).drew.trans u4).alloc _).output, (((Ext.refl wi).drew.trans u4).alloc _).size, fun k hk _ => (((Ext.refl wi).drew.trans u4).alloc _).block hk⟩ (by cases (Value.ownBlock _) <;> simp)) w4.heap.size 1 3 (.int .i64 S) (by rfl) (Box.new _ _ _ rfl) rfl (by omega) (by omega) (by have := u4.size; simp at this; simp; omega) ?_; intro g cp w3 hown3 hgrow hat hlt3
               have E1 := ((Ext.refl wi).drew.trans u4).alloc (.cells #[.int .i64 S] 3)
               have hb3 := (HR.out.ext E1).box hgrow (by omega) (HB.out.ext E1)
               have c3 := hb3.cell 2 (by simp)
               have f3 := hb3.free 2))
          all_goals
            have hsz3 := hgrow.size
            have hsz4 := u4.size
            simp at hsz3 hsz4
            have hIR : IRow wo.heap.size w3 (.slice (some ⟨g, 0, none⟩) (l + 1) cp) ((colS x m).take (l + 1)) := by
              rw [take_succ_ix (by rw [colS_length]; exact hlt2), ix_colS hlt2, HS.out]
              exact IRow.push (by rw [HTK.out]; exact hown3)
            have hxg := (HR.out.ext E1).grew (hx2.trans E1) (by have := hx.size; omega) hgrow
            have hxg1 := (HR.out.ext E1).grew (hx3.trans E1) (by omega) hgrow
            have hro3 := (ORW.out.ext E1).away (Upd.of_grown hgrow) (fun b hb => .inr ((HR.out.ext E1).blk hb).1)
            have HH := Lib.hid (And.intro hIR (And.intro hxg (And.intro hxg1 hro3))); clear hIR hxg hxg1 hro3
            have HB3 := Lib.hid hb3; clear hb3 o4
            go_wp2
            go_roundw
            case rel => exact ⟨l + 1, _, by omega, by go_num, HB3.out.set 2 _, HH.out.1.put (by simp; omega) _, HH.out.2.2.2.put_away _ _ (.inl (by simp)), HH.out.2.1.setCell _ (by simp; omega), HH.out.2.2.1.setCell _ (by simp), by simp [World.setCell]; omega⟩
            case measure => simp [intOf]; omega
        · have hkk : (colS x m).take l = colS x m := List.take_of_length_le (by rw [colS_length]; omega)
          rw [hkk] at hr HR
          have OC0 := Lib.hid (hr.own (Nat.le_refl _))
          obtain ⟨ca, cc, rfl⟩ := hr.form
          clear hr HR hkk
          have cb1 := hb.cell 1 (by simp)
          have fb3 := hb.free 3
          have cb3 := hb.cell 3 (by simp)
          have HB := Lib.hid hb; clear hb
          go_wp2_with fail
          refine (tSum_c _ (rowS x) _ ORW.out.ints HM.out.sumOk).mono ?_
          rintro e wi ⟨rfl, rfl⟩
          have hbs : Box (wi.setCell ⟨w1.heap.size, 3, none⟩ (.int .i64 (rowS x).sum)) w1.heap.size 44 #[.slice a1 x.length c1, .slice ra (rowS x).length rc, .slice ca (colS x m).length cc, .int .i64 (rowS x).sum] := HB.out.set 3 _
          have uf := hx3.setCell (a := ⟨w1.heap.size, 3, none⟩) (.int .i64 (rowS x).sum) (Nat.le_refl _)
          have br := b1.ext uf
          have k0 := hbs.cell 0 (by simp)
          have k1 := hbs.cell 1 (by simp)
          have k2 := hbs.cell 2 (by simp)
          have k3 := hbs.cell 3 (by simp)
          have f0 := br.free 0
          have f1 := br.free 1
          have f2 := br.free 2
          have f3 := br.free 3
          have g0 := br.cell 0 (by simp)
          have g1 := br.cell 1 (by simp)
          have g2 := br.cell 2 (by simp)
          have g3 := br.cell 3 (by simp)
          go_wp2
          refine bodyPost_ret (v := .agg #[.slice a1 x.length c1, .slice ra (rowS x).length rc, .slice ca (colS x m).length cc, .int .i64 (rowS x).sum]) (by simp [results, Try.results65, go_sem, g0, g1, g2, g3]) rfl ⟨_, rfl, ?_, (hx2.setCell _ (by simp; omega)).put4 (Nat.le_refl _) _ _ _ _⟩
          have s0 := SZ0.out
          have s1 := SZ1.out
          have s2 := hx3.size
          have P0 := (O1.out.ext uf).put4 (B := w.heap.size) (by omega) (.slice a1 x.length c1) (.slice ra (rowS x).length rc) (.slice ca (colS x m).length cc) (.int .i64 (rowS x).sum)
          have P1 := (ORW.out.put_away ⟨w1.heap.size, 3, none⟩ (.int .i64 (rowS x).sum) (.inl (by simp))).put4 (B := w.heap.size) (by omega) (.slice a1 x.length c1) (.slice ra (rowS x).length rc) (.slice ca (colS x m).length cc) (.int .i64 (rowS x).sum)
          have P2 := (OC0.out.put_away ⟨w1.heap.size, 3, none⟩ (.int .i64 (rowS x).sum) (.inl (by simp; omega))).put4 (B := w.heap.size) (by omega) (.slice a1 x.length c1) (.slice ra (rowS x).length rc) (.slice ca (colS x m).length cc) (.int .i64 (rowS x).sum)
          have hs := put4_size (wi.setCell ⟨w1.heap.size, 3, none⟩ (.int .i64 (rowS x).sum)) w.heap.size (.slice a1 x.length c1) (.slice ra (rowS x).length rc) (.slice ca (colS x m).length cc) (.int .i64 (rowS x).sum)
          have hs2 : (wi.setCell ⟨w1.heap.size, 3, none⟩ (.int .i64 (rowS x).sum)).heap.size = wi.heap.size := by simp [World.setCell]
          have t3 := Nat.le_of_eq (hs.trans hs2).symm
          exact ⟨_, _, _, _, r1, rfl, P0.mono (by omega) (Nat.le_trans s2 t3), P1.mono (by omega) (Nat.le_trans hsz2 t3), P2.mono (by omega) t3, rfl⟩
end Go.Proofs.Ytjpomfdmgaambaa
