/- The first flow, the spec's: tFirst, FirstFlow. -/
import Derived.Test.YtjpomfdmgaambaaFirstP
import Derived.Test.YtjpomfdmgaambaaSrange
namespace Go.Proofs.Ytjpomfdmgaambaa
open Go.RowKit
open Fm

/-- a grid that is read whatever becomes of the block B -/
def FarG (B : Nat) (w : World) (ao : Option Addr) (xss : List (List Int)) : Prop := ∀ x, Upd (fun b => b = B) w x → GridA x ao xss
namespace FarG
variable {B : Nat} {w w' : World} {ao : Option Addr} {xss : List (List Int)}
theorem here (h : FarG B w ao xss) : GridA w ao xss := h w (Upd.refl w)
theorem upd (h : FarG B w ao xss) (u : Upd (fun b => b = B) w w') : FarG B w' ao xss := fun x e => h x (u.trans e)
theorem ext (h : FarG B w ao xss) (u : Ext w w') : FarG B w' ao xss := h.upd u.upd
theorem of_own {lo hi : Nat} {rvs : List Value} (h : OwnGA lo hi w ao rvs xss) (hB : B < lo) : FarG B w ao xss := fun x e => (h.away e (fun b hb => .inl (by omega))).grid
theorem of_read {u : World} (h : GridA u ao xss) (e : Ext u w) (hB : u.heap.size ≤ B) : FarG B w ao xss := fun x e2 => h.ext (e.of_upd e2 (fun b hb => by omega))
end FarG
theorem next_pos (k m : Nat) : (k + 1) * m + 0 = k * m + m := by rw [Nat.add_mul]; omega

set_option maxRecDepth 100000 in
set_option maxHeartbeats 3200000 in
theorem tFirst_c (v : Value) (T : Tr) (w : World) (h : TrR w v T) (ho : TrOk T) : Calls Try.prog 46 #[v] w (RetGrid (fun v' => .tuple #[v', .bool (feasB T)]) w (firstV T)) := by
  have H := Lib.hid h
  have HO := Lib.hid ho; clear ho
  obtain ⟨a0, c0, a1, c1, a2, c2, a3, c3, rfl, n0, n1, n2, n3⟩ := h.form
  clear h
  obtain ⟨_, _, e9, _, p2, g2⟩ := H.out.f2
  simp only [Value.slice.injEq] at e9
  obtain ⟨rfl, e8, rfl⟩ := e9
  clear e8
  rename_i q2
  obtain ⟨_, _, e9, q3, p3, g3⟩ := H.out.f3
  simp only [Value.slice.injEq] at e9
  obtain ⟨rfl, e8, rfl⟩ := e9
  clear e8
  have G2 := Lib.hid g2; clear g2
  have G3 := Lib.hid g3; clear g3
  have hd := HO.out.dims
  have d2 := hd.2.1
  have d4 := hd.2.2.2.1
  clear hd
  have hll : T.lo.length = T.rows.length := HO.out.rcLo.len
  have hlh : T.hi.length = T.rows.length := HO.out.rcHi.len
  rw [hll] at q2
  rw [hlh] at q3
  rw [hll, hlh] at H ⊢
  clear hll hlh n2 n3
  obtain ⟨n, hn⟩ : ∃ n, T.rows.length = n := ⟨_, rfl⟩
  obtain ⟨m, hm⟩ : ∃ m, T.cols.length = m := ⟨_, rfl⟩
  rw [hn] at H n0 d2 q2 q3 ⊢
  rw [hm] at H n1 d4 ⊢
  have HN := Lib.hid hn; clear hn
  have HM := Lib.hid hm; clear hm
  have u0 := (Ext.refl w).alloc (.cells #[.slice a0 n c0, .slice a1 m c1, .slice a2 n c2, .slice a3 n c3] 30)
  have b0 := Box.new w 30 #[.slice a0 n c0, .slice a1 m c1, .slice a2 n c2, .slice a3 n c3] rfl
  have k0 := b0.cell 0 (by simp)
  have k1 := b0.cell 1 (by simp)
  have k2 := b0.cell 2 (by simp)
  have k3 := b0.cell 3 (by simp)
  obtain ⟨b, hb⟩ : ∃ b, feasB T = b := ⟨_, rfl⟩
  rw [hb]
  have HB := Lib.hid hb; clear hb
  cases b
  · have HV := Lib.hid (first_none HB.out)
    go_enter Try.func46, Try.ntmps46
    go_wp2_with fail
    refine (tFeasible_b false _ T _ HB.out (H.out.ext u0) HO.out).mono ?_
    rintro e w1 ⟨x1, rfl, u1⟩
    go_wp2
    go_ret2
    rw [HV.out]
    exact ⟨_, [], rfl, OwnG.nil, u0.trans u1⟩
  go_enter Try.func46, Try.ntmps46
  go_wp2_with fail
  refine (tFeasible_b true _ T _ HB.out (H.out.ext u0) HO.out).mono ?_
  rintro e w1 ⟨x1, rfl, u1⟩
  have b1 := b0.ext u1
  have v1 := u0.trans u1
  have y0 := b1.cell 0 (by simp)
  have f2 := FarG.of_read G2.out v1 (Nat.le_refl _)
  have f3 := FarG.of_read G3.out v1 (Nat.le_refl _)
  have FX := Lib.hid (Fixed.start HO.out (feasB_true.1 HB.out))
  have hp0 : (0 : Nat) = 0 * m + 0 := by omega
  have FX0 : Hid (Fixed T T (0 * m + 0)) := Lib.hid (by rw [← hp0]; exact FX.out)
  clear FX hp0
  have hsz1 : w.heap.size + 1 ≤ w1.heap.size := b1.lt
  have F2 := Lib.hid f2; clear f2
  have F3 := Lib.hid f3; clear f3
  go_wp2
  go_loopw [19] (fun i wr => ∃ (k : Nat) (T' : Tr) (a4 a5 : Option Addr) (c4 c5 : Nat), k ≤ n ∧ i = .int .i64 k ∧ Box wr w.heap.size 30 #[.slice a0 n c0, .slice a1 m c1, .slice a4 n c4, .slice a5 n c5] ∧ FarG w.heap.size wr a4 T'.lo ∧ FarG w.heap.size wr a5 T'.hi ∧ n ≤ c4 ∧ c4 ≤ 9223372036854775807 ∧ n ≤ c5 ∧ c5 ≤ 9223372036854775807 ∧ Fixed T T' (k * m + 0) ∧ Ext w wr ∧ w.heap.size + 1 ≤ wr.heap.size) (fun i _ => n - (intOf i).toNat)
  case atStart => exact ⟨0, T, a2, a3, c2, c3, Nat.zero_le _, rfl, b1, F2.out, F3.out, q2, p2, q3, p3, FX0.out, v1, hsz1⟩
  case round =>
    obtain ⟨k, T', a4, a5, c4, c5, hk, rfl, hb, hf4, hf5, e1, e2, e3, e4, hfx, hx, hsz⟩ := hrel
    obtain ⟨wo, rfl⟩ : ∃ wo : World, wo = wr := ⟨_, rfl⟩
    have F4 := Lib.hid hf4; clear hf4
    have F5 := Lib.hid hf5; clear hf5
    have FX := Lib.hid hfx; clear hfx
    have y0 := hb.cell 0 (by simp)
    have y1 := hb.cell 1 (by simp)
    have y2 := hb.cell 2 (by simp)
    have HBX := Lib.hid hb; clear hb
    by_cases hlt : k < n
    · go_wp2
      go_loopw [25] (fun i wr => ∃ (l : Nat) (T' : Tr) (a4 a5 : Option Addr) (c4 c5 : Nat), l ≤ m ∧ i = .int .i64 l ∧ Box wr w.heap.size 30 #[.slice a0 n c0, .slice a1 m c1, .slice a4 n c4, .slice a5 n c5] ∧ FarG w.heap.size wr a4 T'.lo ∧ FarG w.heap.size wr a5 T'.hi ∧ n ≤ c4 ∧ c4 ≤ 9223372036854775807 ∧ n ≤ c5 ∧ c5 ≤ 9223372036854775807 ∧ Fixed T T' (k * m + l) ∧ Ext w wr ∧ w.heap.size + 1 ≤ wr.heap.size) (fun i _ => m - (intOf i).toNat)
      case atStart => exact ⟨0, T', a4, a5, c4, c5, Nat.zero_le _, rfl, HBX.out, F4.out, F5.out, e1, e2, e3, e4, FX.out, hx, hsz⟩
      case round =>
        obtain ⟨l, T', a4, a5, c4, c5, hl, rfl, hb, hf4, hf5, e1, e2, e3, e4, hfx, hx, hsz⟩ := hrel
        obtain ⟨wi, rfl⟩ : ∃ wi : World, wi = wr := ⟨_, rfl⟩
        have F4 := Lib.hid hf4; clear hf4
        have F5 := Lib.hid hf5; clear hf5
        have FX := Lib.hid hfx; clear hfx
        by_cases hl2 : l < m
        · have hrn : T'.rows.length = n := by rw [FX.out.rows]; exact HN.out
          have hcm : T'.cols.length = m := by rw [FX.out.cols]; exact HM.out
          have el1 : T'.lo.length = n := by rw [FX.out.ok.rcLo.len]; exact hrn
          have el2 : T'.hi.length = n := by rw [FX.out.ok.rcHi.len]; exact hrn
          have hrd : TrR wi (.agg #[.slice a0 n c0, .slice a1 m c1, .slice a4 n c4, .slice a5 n c5]) T' :=
            ⟨_, _, _, _, rfl, by rw [FX.out.rows]; exact H.out.f0.ext hx, by rw [FX.out.cols]; exact H.out.f1.ext hx, ⟨a4, c4, by rw [el1], by rw [el1]; exact e1, e2, F4.out.here⟩, ⟨a5, c5, by rw [el2], by rw [el2]; exact e3, e4, F5.out.here⟩⟩
          have HRD := Lib.hid hrd; clear hrd
          have HRN := Lib.hid hrn; clear hrn
          have HCM := Lib.hid hcm; clear hcm el1 el2
          obtain ⟨V, hV⟩ : ∃ V, lowV T' k l = V := ⟨_, rfl⟩
          have HV := Lib.hid hV; clear hV
          have y0 := hb.cell 0 (by simp)
          have y1 := hb.cell 1 (by simp)
          have y2 := hb.cell 2 (by simp)
          have y3 := hb.cell 3 (by simp)
          go_wp2_with fail
          refine (tLow_c T' a0 a1 a4 a5 c0 c1 c4 c5 n m k l _ HRN.out HCM.out HRD.out FX.out.ok hlt hl2 FX.out.feas).mono ?_
          rw [HV.out]
          rintro e w3 ⟨rfl, u3⟩
          have hb3 := hb.ext u3
          have z0 := hb3.cell 0 (by simp)
          have z1 := hb3.cell 1 (by simp)
          have z2 := hb3.cell 2 (by simp)
          have z3 := hb3.cell 3 (by simp)
          have s3 := u3.size
          go_wp2_with fail
          refine (tWith_c T' a0 a1 a4 a5 c0 c1 c4 c5 n m k l V V _ HRN.out HCM.out (HRD.out.ext u3) FX.out.ok hlt hl2).mono ?_
          rintro e w4 ⟨a6, a7, c6, c7, mid, r6, r7, rfl, g6, g7, t1, t2, t3, t4, u4⟩
          have hb4 := hb3.ext u4
          have x0 := hb4.cell 0 (by simp)
          have x1 := hb4.cell 1 (by simp)
          have x2 := hb4.cell 2 (by simp)
          have x3 := hb4.cell 3 (by simp)
          have f0 := hb4.free 0
          have f1 := hb4.free 1
          have f2 := hb4.free 2
          have f3 := hb4.free 3
          have s4 := u4.size
          have hmid : w.heap.size < mid := by
            have h9 := g6.range (by intro e; have h8 := (FX.out.ok.rcLo.len); have h7 := HRN.out; rw [h7] at h8; have h6 := setEl_len T'.lo k l V; rw [e] at h6; simp at h6; omega)
            omega
          have up := Upd.put4 (Upd.refl (S := fun b => b = w.heap.size) w4) (B' := w.heap.size) rfl (.slice a0 n c0) (.slice a1 m c1) (.slice a6 n c6) (.slice a7 n c7)
          have g6' := (FarG.of_own g6 (B := w.heap.size) (by omega)).upd up
          have g7' := (FarG.of_own g7 (B := w.heap.size) hmid).upd up
          have hb5 := (((hb4.set 0 (.slice a0 n c0)).set 1 (.slice a1 m c1)).set 2 (.slice a6 n c6)).set 3 (.slice a7 n c7)
          have hx5 := ((hx.trans u3).trans u4).put4 (B := w.heap.size) (Nat.le_refl _) (.slice a0 n c0) (.slice a1 m c1) (.slice a6 n c6) (.slice a7 n c7)
          have hsz5 : w.heap.size + 1 ≤ (put4 w4 w.heap.size (.slice a0 n c0) (.slice a1 m c1) (.slice a6 n c6) (.slice a7 n c7)).heap.size := by rw [put4_size]; omega
          have hst := Fixed.step (T := T) (T' := T') (i := k) (j := l) (by rw [HM.out]; exact FX.out) (by rw [HN.out]; exact hlt) (by rw [HM.out]; exact hl2)
          rw [HV.out, HM.out] at hst
          have HA := Lib.hid (And.intro hb5 (And.intro g6' (And.intro g7' (And.intro hst (And.intro hx5 hsz5)))))
          clear hb5 g6' g7' hst hx5 hsz5 up g6 g7 hb hb3 hb4 hmid
          go_wp2
          go_roundw
          case rel => exact ⟨l + 1, withT T' k l V V, a6, a7, c6, c7, by omega, by go_num, HA.out.1, HA.out.2.1, HA.out.2.2.1, t1, t2, t3, t4, HA.out.2.2.2.1, HA.out.2.2.2.2.1, HA.out.2.2.2.2.2⟩
          case measure => simp [intOf]; omega
        · have hlm : l = m := by omega
          have FN : Hid (Fixed T T' ((k + 1) * m + 0)) := Lib.hid (by rw [next_pos]; rw [← hlm]; rw [← hlm] at FX; exact FX.out)
          clear hlm
          have HBX := Lib.hid hb; clear hb
          go_wp2
          go_roundw
          case rel => exact ⟨k + 1, T', a4, a5, c4, c5, by omega, by go_num, HBX.out, F4.out, F5.out, e1, e2, e3, e4, FN.out, hx, hsz⟩
          case measure => simp [intOf]; omega
    · have hkn : k = n := by omega
      have hfv := (FX.out.done (by rw [HN.out, HM.out, hkn]; exact Nat.le_refl _)).eq
      have HFV := Lib.hid hfv; clear hfv hkn
      have hrn : T'.rows.length = n := by rw [FX.out.rows]; exact HN.out
      have hcm : T'.cols.length = m := by rw [FX.out.cols]; exact HM.out
      have el1 : T'.lo.length = n := by rw [FX.out.ok.rcLo.len]; exact hrn
      have hG : Grid wo (.slice a4 n c4) T'.lo := ⟨a4, c4, by rw [el1], by rw [el1]; exact e1, e2, F4.out.here⟩
      have HG := Lib.hid hG; clear hG
      have hd3 : 1 ≤ m := by rw [← HM.out]; exact HO.out.dims.2.2.1
      have HL : Hid (T'.lo.length ≤ 1048576 ∧ (∀ k, k < T'.lo.length → (rowAt T'.lo k).length ≤ 1048576) ∧ ∀ k, k < T'.lo.length → rowAt T'.lo k ≠ []) := Lib.hid ⟨by omega, fun k hk => by
          have := FX.out.ok.rcLo.row k (by rw [← FX.out.ok.rcLo.len]; exact hk); omega, fun k hk e => by
          have := FX.out.ok.rcLo.row k (by rw [← FX.out.ok.rcLo.len]; exact hk); rw [e] at this; simp at this; omega⟩
      clear hrn hcm el1
      go_wp2_with fail
      refine (tOwn_c _ T'.lo _ HG.out HL.out.1 HL.out.2.1 HL.out.2.2).mono ?_
      rintro e w3 ⟨x3, r3, rfl, o3, u3⟩
      have s3 := hx.size
      go_wp2
      go_ret2
      rw [HFV.out]
      exact ⟨x3, r3, rfl, o3.mono s3 (Nat.le_refl _), hx.trans u3⟩
end Go.Proofs.Ytjpomfdmgaambaa
