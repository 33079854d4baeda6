/- The network of an attack, the program's: attackNetwork. -/
import Derived.Test.YtodnkahnbidgaaaOb
import Derived.Test.YtodnkahnbidgaaaPub
import Derived.Test.YtodnkahnbidgaaaMarg
import Derived.Test.YtodnkahnbidgaaaTr
import Derived.BigRegion
namespace Go.Proofs.Ytodnkahnbidgaaa
open Go.RowKit

def atkLo (p : List (List Int)) (i j : Nat) (n : Int) : Int := if ix (rowAt p i) j = 1 then 0 else n
def atkHi (p : List (List Int)) (i j : Nat) (n : Int) : Int := if ix (rowAt p i) j = 1 then 100000 else n
def atkT (x p : List (List Int)) : Tr := ⟨rowS x, colS x (rowAt x 0).length, mapG (atkLo p) x, mapG (atkHi p) x⟩
theorem pub_matOk {x p : List (List Int)} (h : pubB x p = true) : MatOk x (rowAt x 0).length := by
  have a := pubB_shape h
  have g := gridB_true.1 a.1
  refine ⟨by omega, by omega, g.2.2.1, g.2.2.2.1, fun k hk => (g.2.2.2.2 k hk).1, fun k l hk hl => ?_⟩
  have := gridB_elem a.1 hk (j := l) (by rw [(g.2.2.2.2 k hk).1]; exact hl)
  omega

set_option maxHeartbeats 6400000 in
theorem attackNetwork_c (v1 : Value) (x : List (List Int)) (v2 : Value) (p : List (List Int)) (w : World) (h1 : Grid w v1 x) (h2 : Grid w v2 p) (hq : pubB x p = true) :
    Calls Try.prog 29 #[v1, v2] w fun e w' => ∃ v', e = .returned v' ∧ TrO w.heap.size w'.heap.size w' v' (atkT x p) ∧ Ext w w' := by
  have H1 := Lib.hid h1; clear h1
  obtain ⟨ap, cap, rfl, hp1, hp2, hp3⟩ := h2
  have GP := Lib.hid hp3; clear hp3
  have sh := pubB_shape hq
  have hx8 := sh.2.2.1
  have hx1 := sh.2.2.2.1
  have HSH : Hid (p.length = x.length ∧ ∀ k, k < x.length → (rowAt x k).length ≤ 8 ∧ 1 ≤ (rowAt x k).length ∧ (rowAt p k).length = (rowAt x k).length) := Lib.hid ⟨sh.2.1, sh.2.2.2.2⟩
  clear sh
  have HM := Lib.hid (pub_matOk hq); clear hq
  have u0 := (Ext.refl w).alloc (.cells #[.slice none 0 0, .slice none 0 0, .slice none 0 0, .slice none 0 0] 38)
  have b0 := Box.new w 38 #[.slice none 0 0, .slice none 0 0, .slice none 0 0, .slice none 0 0] rfl
  have SZ0 : Hid ((w.alloc (.cells #[.slice none 0 0, .slice none 0 0, .slice none 0 0, .slice none 0 0] 38)).heap.size = w.heap.size + 1) := Lib.hid (by simp)
  go_enter Try.func29, Try.ntmps29
  go_wp2_with fail
  refine (rowSums_c _ x _ (H1.out.ext u0) HM.out.tame).mono ?_
  rintro e w1 ⟨v1', rfl, o1, u1⟩
  have O1 := Lib.hid o1
  obtain ⟨a1, c1, rfl, n1, n1', qq⟩ := o1; clear qq
  have V1 := u0.trans u1
  go_wp2_with fail
  refine (colSums_c _ x (rowAt x 0).length _ (H1.out.ext V1) HM.out.tame (by omega) HM.out.row).mono ?_
  rintro e w2 ⟨v2', rfl, o2, u2⟩
  have O2 := Lib.hid o2
  obtain ⟨a2, c2, rfl, n2, n2', qq⟩ := o2; clear qq
  have V2 := V1.trans u2
  go_wp2_with fail
  refine (copyMatrix_c _ x _ (H1.out.ext V2) (by omega) (fun k hk => by have := HSH.out.2 k hk; omega) (fun k hk e => by have := HSH.out.2 k hk; rw [e] at this; simp at this)).mono ?_
  rintro e w3 ⟨v3', r3, rfl, og3, u3⟩
  obtain ⟨a3, c3, rfl, m3, m3', q3⟩ := og3
  have GA3 := Lib.hid q3; clear q3
  have V3 := V2.trans u3
  go_wp2_with fail
  refine (copyMatrix_c _ x _ (H1.out.ext V3) (by omega) (fun k hk => by have := HSH.out.2 k hk; omega) (fun k hk e => by have := HSH.out.2 k hk; rw [e] at this; simp at this)).mono ?_
  rintro e w4 ⟨v4', r4, rfl, og4, u4⟩
  obtain ⟨a4, c4, rfl, m4, m4', q4⟩ := og4
  have GA4 := Lib.hid q4; clear q4
  have V4 := V3.trans u4
  have z0 := SZ0.out
  have z1 := u1.size
  have z2 := u2.size
  have z3 := u3.size
  have z4 := u4.size
  rw [z0] at z1
  have bB := Box.new w4 38 #[.slice a1 (rowS x).length c1, .slice a2 (colS x (rowAt x 0).length).length c2, .slice a3 x.length c3, .slice a4 x.length c4] rfl
  have uA := (Ext.refl w4).alloc (.cells #[.slice a1 (rowS x).length c1, .slice a2 (colS x (rowAt x 0).length).length c2, .slice a3 x.length c3, .slice a4 x.length c4] 38)
  have G3A := Lib.hid ((GA3.out.ext u4).ext uA)
  have G4A := Lib.hid (GA4.out.ext uA)
  have VA := V4.trans uA
  obtain ⟨wA, hwA⟩ : ∃ wA, wA = w4.alloc (.cells #[.slice a1 (rowS x).length c1, .slice a2 (colS x (rowAt x 0).length).length c2, .slice a3 x.length c3, .slice a4 x.length c4] 38) := ⟨_, rfl⟩
  have OA1 := Lib.hid (((O1.out.ext u2).ext u3).ext (u4.trans uA))
  have OA2 := Lib.hid ((O2.out.ext u3).ext (u4.trans uA))
  have bR := b0.ext (((u1.trans u2).trans u3).trans (u4.trans uA))
  have zA : wA.heap.size = w4.heap.size + 1 := by rw [hwA]; simp
  rw [← hwA] at bB G3A G4A VA OA1 OA2 bR
  clear uA
  go_wp2
  rw [← hwA]
  clear hwA
  have HBB := Lib.hid bB; clear bB
  go_loopw [21] (fun i wr => ∃ (k : Nat) (zs ys : List (List Int)), k ≤ p.length ∧ i = .int .i64 k ∧ OwnGA w2.heap.size w3.heap.size wr a3 r3 zs ∧ Mix (atkLo p) x zs k 0 ∧ OwnGA w3.heap.size w4.heap.size wr a4 r4 ys ∧ Mix (atkHi p) x ys k 0 ∧ Upd (fun b => w2.heap.size ≤ b ∧ b < w4.heap.size) wA wr) (fun i _ => p.length - (intOf i).toNat)
  case atStart => exact ⟨0, x, x, Nat.zero_le _, rfl, G3A.out, Mix.start, G4A.out, Mix.start, Upd.refl _⟩
  case round =>
    obtain ⟨k, zs, ys, hk, rfl, hg1, hm1, hg2, hm2, hU⟩ := hrel
    have HM1 := Lib.hid hm1; clear hm1
    have HM2 := Lib.hid hm2; clear hm2
    have HG1 := Lib.hid hg1; clear hg1
    have HG2 := Lib.hid hg2; clear hg2
    by_cases hlt : k < p.length
    · have hltx : k < x.length := by have := HSH.out.1; omega
      have hxw := VA.of_upd hU (fun b hb => by omega)
      obtain ⟨bp, op, ap2, cp2, rfl, hcp0, s1, s2, s3⟩ := GP.out.at_ hlt
      have hcp := Ext.cell hxw hcp0
      have P3 := Lib.hid s3; clear s3
      have hz1 : k < zs.length := by rw [HM1.out.len]; exact hltx
      have hz2 : k < ys.length := by rw [HM2.out.len]; exact hltx
      obtain ⟨b1, o1, rfl, _⟩ := HG1.out.at_ hz1
      obtain ⟨b2, o2, rfl, _⟩ := HG2.out.at_ hz2
      obtain ⟨ar1, cr1, ev1, i1, i1'⟩ := HG1.out.rowForm hz1
      obtain ⟨ar2, cr2, ev2, i2, i2'⟩ := HG2.out.rowForm hz2
      rw [HM1.out.row k hltx] at ev1 i1
      rw [HM2.out.row k hltx] at ev2 i2
      have EV1 := Lib.hid ev1; clear ev1
      have EV2 := Lib.hid ev2; clear ev2
      have HRK := Lib.hid (HSH.out.2 k hltx)
      go_wp2
      go_loopw [28] (fun i wr' => ∃ (l : Nat) (zs' ys' : List (List Int)), l ≤ (rowAt p k).length ∧ i = .int .i64 l ∧ OwnGA w2.heap.size w3.heap.size wr' (some ⟨b1, o1, none⟩) r3 zs' ∧ Mix (atkLo p) x zs' k l ∧ OwnGA w3.heap.size w4.heap.size wr' (some ⟨b2, o2, none⟩) r4 ys' ∧ Mix (atkHi p) x ys' k l ∧ Upd (fun b => w2.heap.size ≤ b ∧ b < w4.heap.size) wA wr') (fun i _ => (rowAt p k).length - (intOf i).toNat)
      case atStart => exact ⟨0, zs, ys, Nat.zero_le _, rfl, HG1.out, HM1.out, HG2.out, HM2.out, hU⟩
      case round =>
        obtain ⟨l, zs', ys', hl, rfl, hg1', hm1', hg2', hm2', hU'⟩ := hrel
        obtain ⟨wi, rfl⟩ : ∃ wi : World, wi = wr := ⟨_, rfl⟩
        have HM1' := Lib.hid hm1'; clear hm1'
        have HM2' := Lib.hid hm2'; clear hm2'
        have HG1' := Lib.hid hg1'; clear hg1'
        have HG2' := Lib.hid hg2'; clear hg2'
        by_cases hl2 : l < (rowAt p k).length
        · have hl2x : l < (rowAt x k).length := by have := HRK.out.2.2; omega
          have hxi := VA.of_upd hU' (fun b hb => by omega)
          obtain ⟨bq, oq, rfl, hcq0⟩ := P3.out l hl2
          have hcq := Ext.cell hxi hcq0
          clear hxi
          by_cases hone : ix (rowAt p k) l = 1
          · have hq1 : (ix (rowAt p k) l == 1) = true := by simp [hone]
            have HL := Lib.hid (show (0 : Int) = atkLo p k l (ix (rowAt x k) l) by simp [atkLo, hone])
            have HH := Lib.hid (show (100000 : Int) = atkHi p k l (ix (rowAt x k) l) by simp [atkHi, hone])
            clear hone
            have hbb := HBB.out.upd hU' (by omega)
            have k2 := hbb.cell 2 (by simp)
            have k3 := hbb.cell 3 (by simp)
            clear hbb
            have hz1' : k < zs'.length := by rw [HM1'.out.len]; exact hltx
            have hz2' : k < ys'.length := by rw [HM2'.out.len]; exact hltx
            have hr1 : l < (rowAt zs' k).length := by rw [HM1'.out.row k hltx]; exact hl2x
            have hr2 : l < (rowAt ys' k).length := by rw [HM2'.out.row k hltx]; exact hl2x
            obtain ⟨b3, o3, e3, lb3, lb3', _, hc3, hf3⟩ := HG1'.out.at_ hz1'
            obtain ⟨rfl, rfl⟩ : b1 = b3 ∧ o1 = o3 := by simpa using e3
            rw [EV1.out] at hc3
            obtain ⟨b4, o4, rfl, lb4, lb4', lt4, hc4, hf4, st1⟩ := HG1'.out.store hz1' hr1 EV1.out
            have ST1 := Lib.hid st1; clear st1
            obtain ⟨b5, o5, e5, lb5, lb5', _, hc5, hf5⟩ := HG2'.out.at_ hz2'
            obtain ⟨rfl, rfl⟩ : b2 = b5 ∧ o2 = o5 := by simpa using e5
            rw [EV2.out] at hc5
            have G2A := Lib.hid (HG2'.out.put_away ⟨b4, o4 + l, none⟩ (.int .i64 0) (.inl (by simp only; omega)))
            obtain ⟨b6, o6, rfl, lb6, lb6', lt6, hc6, hf6, st2⟩ := G2A.out.store hz2' hr2 EV2.out
            have ST2 := Lib.hid st2; clear st2
            go_wp2_with fail
            go_region
            go_wp2
            go_roundw
            case rel => exact ⟨l + 1, _, _, by omega, by go_num, ((ST1.out 0).put_away _ _ (.inr (by simp only; omega))).ext ((Ext.refl _).drew), HM1'.out.step hltx hl2x HL.out, (ST2.out 100000).ext ((Ext.refl _).drew), HM2'.out.step hltx hl2x HH.out, ((hU'.setCell _ (fun _ => by simp only; omega)).setCell _ (fun _ => by simp only; omega)).drew⟩
            case measure => simp [intOf]; omega
          · have hq1 : (ix (rowAt p k) l == 1) = false := by simp [hone]
            have HL := Lib.hid (show ix (rowAt x k) l = atkLo p k l (ix (rowAt x k) l) by simp [atkLo, hone])
            have HH := Lib.hid (show ix (rowAt x k) l = atkHi p k l (ix (rowAt x k) l) by simp [atkHi, hone])
            clear hone
            go_wp2
            go_roundw
            case rel => exact ⟨l + 1, zs', ys', by omega, by go_num, HG1'.out, HM1'.out.keep hltx hl2x HL.out, HG2'.out, HM2'.out.keep hltx hl2x HH.out, hU'⟩
            case measure => simp [intOf]; omega
        · go_wp2
          go_roundw
          case rel => exact ⟨k + 1, zs', ys', by omega, by go_num, HG1'.out, HM1'.out.next (by have := HRK.out; omega), HG2'.out, HM2'.out.next (by have := HRK.out; omega), hU'⟩
          case measure => simp [intOf]; omega
    · have hk1 := HM1.out.done (by have := HSH.out.1; omega)
      have hk2 := HM2.out.done (by have := HSH.out.1; omega)
      subst hk1; subst hk2
      have hbb := HBB.out.upd hU (by omega)
      have k0 := hbb.cell 0 (by simp)
      have k1 := hbb.cell 1 (by simp)
      have k2 := hbb.cell 2 (by simp)
      have k3 := hbb.cell 3 (by simp)
      have br := bR.upd hU (by omega)
      have f0 := br.free 0
      have f1 := br.free 1
      have f2 := br.free 2
      have f3 := br.free 3
      have g0 := br.cell 0 (by simp)
      have g1 := br.cell 1 (by simp)
      have g2 := br.cell 2 (by simp)
      have g3 := br.cell 3 (by simp)
      obtain ⟨wf, rfl⟩ : ∃ wf : World, wf = wr := ⟨_, rfl⟩
      go_wp2
      refine bodyPost_ret (v := .agg #[.slice a1 (rowS x).length c1, .slice a2 (colS x (rowAt x 0).length).length c2, .slice a3 x.length c3, .slice a4 x.length c4]) (by simp [results, Try.results29, go_sem, g0, g1, g2, g3]) rfl ⟨_, rfl, ?_, (VA.of_upd hU (fun b hb => by omega)).put4 (Nat.le_refl _) _ _ _ _⟩
      have zf := hU.size
      have P1 := (OA1.out.away hU (fun b hb => .inr (by omega))).put4 (B := w.heap.size) (by omega) (.slice a1 (rowS x).length c1) (.slice a2 (colS x (rowAt x 0).length).length c2) (.slice a3 x.length c3) (.slice a4 x.length c4)
      have P2 := (OA2.out.away hU (fun b hb => .inr (by omega))).put4 (B := w.heap.size) (by omega) (.slice a1 (rowS x).length c1) (.slice a2 (colS x (rowAt x 0).length).length c2) (.slice a3 x.length c3) (.slice a4 x.length c4)
      have Q3 : OwnG w2.heap.size w3.heap.size wf (.slice a3 x.length c3) r3 (mapG (atkLo p) x) := ⟨a3, c3, by rw [mapG_length], by rw [mapG_length]; exact m3, m3', HG1.out⟩
      have Q4 : OwnG w3.heap.size w4.heap.size wf (.slice a4 x.length c4) r4 (mapG (atkHi p) x) := ⟨a4, c4, by rw [mapG_length], by rw [mapG_length]; exact m4, m4', HG2.out⟩
      have P3 := Q3.put4 (B := w.heap.size) (by omega) (.slice a1 (rowS x).length c1) (.slice a2 (colS x (rowAt x 0).length).length c2) (.slice a3 x.length c3) (.slice a4 x.length c4)
      have P4 := Q4.put4 (B := w.heap.size) (by omega) (.slice a1 (rowS x).length c1) (.slice a2 (colS x (rowAt x 0).length).length c2) (.slice a3 x.length c3) (.slice a4 x.length c4)
      have hs := put4_size wf w.heap.size (.slice a1 (rowS x).length c1) (.slice a2 (colS x (rowAt x 0).length).length c2) (.slice a3 x.length c3) (.slice a4 x.length c4)
      have t4 : w4.heap.size ≤ wf.heap.size := by omega
      exact TrL.o ⟨_, _, _, _, r3, r4, w.heap.size + 1, w1.heap.size, w2.heap.size, w3.heap.size, w4.heap.size, rfl, by omega, z1, z2, z3, z4, Nat.le_trans t4 (Nat.le_of_eq hs.symm), P1.mono (by omega) (Nat.le_refl _), P2, P3, P4⟩
end Go.Proofs.Ytodnkahnbidgaaa
