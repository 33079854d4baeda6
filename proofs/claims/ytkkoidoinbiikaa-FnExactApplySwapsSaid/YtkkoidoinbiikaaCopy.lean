/- Copies of records: copyRecord, copyRecords; rOwn, swOwn. -/
import Derived.Test.YtkkoidoinbiikaaInp
import Derived.Test.YtkkoidoinbiikaaPeB
import Derived.Test.YtkkoidoinbiikaaEqual
import Derived.Test.YtkkoidoinbiikaaGrow
import Derived.Test.YtkkoidoinbiikaaKey
import Derived.BigRegion
namespace Go.Proofs.Ytkkoidoinbiikaa
open Go.RowKit

namespace OwnPA
variable {T lo hi : Nat} {w w' : World} {ao : Option Addr} {rvs : List Value} {l : List Pe}
/-- area and house of a record are stored anew, and its values' slice as it was -/
theorem put3 {b o : Nat} (h : OwnPA T lo hi w (some ⟨b, o, none⟩) rvs l) (hT : T ≠ 3) {k : Nat} (hk : k < l.length) (A H : Int) :
    OwnPA T lo hi (((w.setCell ⟨b, o + k * 3, none⟩ (.int .i64 A)).setCell ⟨b, o + k * 3 + 1, none⟩ (.int .i64 H)).setCell ⟨b, o + k * 3 + 2, none⟩ (rvAt rvs k)) (some ⟨b, o, none⟩) rvs (l.set k ⟨A, H, (peAt l k).vals⟩) := by
  have h2 := h.put2 hT hk A H
  obtain ⟨l', hl'⟩ : ∃ l', l.set k ⟨A, H, (peAt l k).vals⟩ = l' := ⟨_, rfl⟩
  have hk' : k < l'.length := by rw [← hl']; simpa using hk
  rw [hl'] at h2 ⊢
  obtain ⟨w2, hw2⟩ : ∃ w2, (w.setCell ⟨b, o + k * 3, none⟩ (.int .i64 A)).setCell ⟨b, o + k * 3 + 1, none⟩ (.int .i64 H) = w2 := ⟨_, rfl⟩
  rw [hw2] at h2 ⊢
  have h1 := h2.spine.set (i := k * 3 + 2) (by omega) (rvAt rvs k)
  rw [← Nat.add_assoc] at h1
  have hu : Upd (fun c => c = b) w2 (w2.setCell ⟨b, o + k * 3 + 2, none⟩ (rvAt rvs k)) := (Upd.refl (S := fun c => c = b) w2).setCell (a := ⟨b, o + k * 3 + 2, none⟩) _ (fun _ => rfl)
  refine ⟨h2.len, h1.congr (fun j hj => ?_), fun j hj => (h2.row j hj).upd hu (fun hr e => h2.apart hT hj hr e), h2.diff⟩
  by_cases e : j = k * 3 + 2
  · subst e; rw [if_pos rfl, peCell2]
  · rw [if_neg e]
end OwnPA

set_option maxHeartbeats 800000 in
theorem copyRecord_c (v : Value) (r : Pe) (w : World) (h : PeR w v r) (hne : r.vals ≠ []) (hl : r.vals.length ≤ 1048576) :
    Calls Try.prog 103 #[v] w fun e w' => ∃ rv, e = .returned (.agg #[.int .i64 r.area, .int .i64 r.house, rv]) ∧ Own w.heap.size w'.heap.size w' rv r.vals ∧ Ext w w' := by
  obtain ⟨rv, rfl, hi⟩ := h
  have HI := Lib.hid hi
  obtain ⟨a, c, rfl, p1, p2, p3⟩ := hi
  clear p3
  obtain ⟨A, hA⟩ : ∃ A, r.area = A := ⟨_, rfl⟩
  obtain ⟨H, hH⟩ : ∃ H, r.house = H := ⟨_, rfl⟩
  obtain ⟨xs, hxs⟩ : ∃ xs, r.vals = xs := ⟨_, rfl⟩
  rw [hxs] at HI hl p1 hne
  rw [hA, hH, hxs]
  clear hA hH hxs
  have bx := (Box.new w 50 #[.int .i64 A, .int .i64 H, .slice a xs.length c] rfl).alloc (.cells #[.int .i64 0, .int .i64 0, .slice none 0 0] 50)
  have cx := bx.cell 2 (by simp)
  have u0 := ((Ext.refl w).alloc (.cells #[.int .i64 A, .int .i64 H, .slice a xs.length c] 50)).alloc (.cells #[.int .i64 0, .int .i64 0, .slice none 0 0] 50)
  go_enter Try.func103, Try.ntmps103
  go_wp2_with fail
  refine (cloneI_c _ xs _ (HI.out.ext u0) hne hl).mono ?_
  rintro e w1 ⟨v', rfl, o1, u1⟩
  have br := (Box.new (w.alloc (.cells #[.int .i64 A, .int .i64 H, .slice a xs.length c] 50)) 50 #[.int .i64 0, .int .i64 0, .slice none 0 0] (b := w.heap.size + 1) (by simp)).ext u1
  have bo := bx.ext u1
  have SZ : Hid (w.heap.size + 1 + 1 ≤ w1.heap.size) := Lib.hid br.lt
  have O := Lib.hid o1
  obtain ⟨a2, c2, rfl, _, _, q3⟩ := o1
  clear q3
  have k0 := bo.cell 0 (by simp)
  have k1 := bo.cell 1 (by simp)
  have k2 := bo.cell 2 (by simp)
  have f2 := bo.free 2
  have l0 := br.cell 0 (by simp)
  have l1 := br.cell 1 (by simp)
  have l2 := br.cell 2 (by simp)
  have g0 := br.free 0
  have g1 := br.free 1
  have g2 := br.free 2
  have hlo : ((w.alloc (.cells #[.int .i64 A, .int .i64 H, .slice a xs.length c] 50)).alloc (.cells #[.int .i64 0, .int .i64 0, .slice none 0 0] 50)).heap.size = w.heap.size + 1 + 1 := by simp
  rw [hlo] at O
  clear hlo
  have UX := Lib.hid (u0.trans u1)
  clear u0 u1 bx cx
  go_wp2
  refine bodyPost_ret (v := .agg #[.int .i64 A, .int .i64 H, .slice a2 xs.length c2]) (by simp [results, Try.results103, go_sem, l0, l1, l2]) rfl ⟨_, rfl, ?_, ?_⟩
  · have hsz : ((((w1.setCell ⟨w.heap.size, 2, none⟩ (.slice a2 xs.length c2)).setCell ⟨w.heap.size + 1, 0, none⟩ (.int .i64 A)).setCell ⟨w.heap.size + 1, 1, none⟩ (.int .i64 H)).setCell ⟨w.heap.size + 1, 2, none⟩ (.slice a2 xs.length c2)).heap.size = w1.heap.size := by simp [World.setCell]
    rw [hsz]
    exact ((((O.out.put_away ⟨w.heap.size, 2, none⟩ _ (.inl (by simp only; omega))).put_away ⟨w.heap.size + 1, 0, none⟩ _ (.inl (by simp only; omega))).put_away ⟨w.heap.size + 1, 1, none⟩ _ (.inl (by simp only; omega))).put_away ⟨w.heap.size + 1, 2, none⟩ _ (.inl (by simp only; omega))).mono (by omega) (Nat.le_refl _)
  · exact (((UX.out.setCell (a := ⟨w.heap.size, 2, none⟩) _ (by simp only; omega)).setCell (a := ⟨w.heap.size + 1, 0, none⟩) _ (by simp only; omega)).setCell (a := ⟨w.heap.size + 1, 1, none⟩) _ (by simp only; omega)).setCell (a := ⟨w.heap.size + 1, 2, none⟩) _ (by simp only; omega)
set_option maxHeartbeats 1600000 in
theorem copyRecords_c (v : Value) (s : List Pe) (w : World) (h : Pes w v s) (hs : PeSmall s) (hne : ∀ k, k < s.length → (peAt s k).vals ≠ []) :
    Calls Try.prog 88 #[v] w fun e w' => ∃ v' rvs, e = .returned v' ∧ OwnP 50 w.heap.size w'.heap.size w' v' rvs s ∧ Ext w w' := by
  obtain ⟨ao, cap, rfl, h1, h2, h3⟩ := h
  have G := Lib.hid h3; clear h3
  obtain ⟨hl, hv, _⟩ := hs
  have HNE := Lib.hid hne; clear hne
  have HV := Lib.hid hv; clear hv
  have hmk := run_make_wide (P := Try.prog) 31 50 (.agg #[.int .i64 0, .int .i64 0, .slice none 0 0]) 3 40 Try.underlying31 info_record .i64 .i64 s.length (by omega) (by omega)
  have hst := rowIs_made_wide w (Value.agg #[.int .i64 0, .int .i64 0, .slice none 0 0]).cells (s.length * 3) 50
  obtain ⟨Z, hZ⟩ : ∃ Z, (Value.agg #[.int .i64 0, .int .i64 0, .slice none 0 0]).cells = Z := ⟨_, rfl⟩
  rw [hZ] at hst
  simp only [hZ] at hmk
  clear hZ
  obtain ⟨f0, hf0⟩ : ∃ f : Nat → Value, (fun i => Z[i % Z.size]!) = f := ⟨_, rfl⟩
  rw [hf0] at hst
  clear hf0
  have HST := Lib.hid hst; clear hst
  go_enter Try.func88, Try.ntmps88
  go_wp2
  go_loopw [11] (fun i wr => ∃ (k : Nat) (rvs : List Value), k ≤ s.length ∧ i = .int .i64 k ∧ rvs.length = k ∧ wr.rowIs w.heap.size 50 (s.length * 3) (fun j => if j < k * 3 then peCell rvs s j else f0 j) ∧
    (∀ j, j < k → Own w.heap.size wr.heap.size wr (rvAt rvs j) (peAt s j).vals) ∧
    (∀ i j, i < k → j < k → i ≠ j → (peAt s i).vals ≠ [] → (peAt s j).vals ≠ [] → blk (rvAt rvs i) ≠ blk (rvAt rvs j)) ∧ Ext w wr) (fun i _ => s.length - (intOf i).toNat)
  case atStart => exact ⟨0, [], Nat.zero_le _, rfl, rfl, HST.out.congr (fun j _ => by simp), fun j hj => by omega, fun i j hi => by omega, (Ext.refl _).alloc _⟩
  case round =>
    clear HST
    obtain ⟨k, rvs, hk, rfl, hn, hrow, hown, hd, hx⟩ := hrel
    have HR := Lib.hid hrow; clear hrow
    have HO := Lib.hid hown; clear hown
    have HD := Lib.hid hd; clear hd
    have HN := Lib.hid hn; clear hn
    by_cases hlt : k < s.length
    · obtain ⟨b, o, ar, cr, rfl, hc0, hc1, hc2, r1, r2, r3⟩ := (G.out.ext hx).at_ hlt
      have R3 := Lib.hid r3; clear r3
      obtain ⟨wb, hwb⟩ : ∃ wb, wr.alloc (.cells #[.int .i64 (peAt s k).area, .int .i64 (peAt s k).house, .slice ar (peAt s k).vals.length cr] 50) = wb := ⟨_, rfl⟩
      have ub := (Ext.refl wr).alloc (.cells #[.int .i64 (peAt s k).area, .int .i64 (peAt s k).house, .slice ar (peAt s k).vals.length cr] 50)
      clear hwb wb
      go_wp2_with fail
      refine (copyRecord_c _ (peAt s k) _ (PeR.ext ⟨_, rfl, ar, cr, rfl, r1, r2, R3.out⟩ ub) (HNE.out k hlt) (HV.out k hlt)).mono ?_
      rintro e w1 ⟨rv, rfl, o1, u1⟩
      replace o1 := o1.mono (lo' := wr.heap.size) ub.size (Nat.le_refl _)
      replace u1 := ub.trans u1
      clear ub
      have HO1 := Lib.hid o1
      obtain ⟨a3, c3, rfl, _, _, q3⟩ := o1
      clear q3
      have hrow1 := rowIs_ext HR.out u1
      have hfr0 := hrow1.frozen (k * 3)
      have hfr1 := hrow1.frozen (k * 3 + 1)
      have hfr2 := hrow1.frozen (k * 3 + 2)
      have hcell0 := hrow1.cell (i := k * 3) (by omega)
      have hcell1 := hrow1.cell (i := k * 3 + 1) (by omega)
      have hcell2 := hrow1.cell (i := k * 3 + 2) (by omega)
      have HR1 := Lib.hid hrow1; clear hrow1
      go_wp2
      go_roundw
      case rel =>
        have hsz : (((w1.setCell ⟨w.heap.size, k * 3, none⟩ (.int .i64 (peAt s k).area)).setCell ⟨w.heap.size, k * 3 + 1, none⟩ (.int .i64 (peAt s k).house)).setCell ⟨w.heap.size, k * 3 + 2, none⟩ (.slice a3 (peAt s k).vals.length c3)).heap.size = w1.heap.size := by simp [World.setCell]
        have hu : Upd (fun c => c = w.heap.size) w1 (((w1.setCell ⟨w.heap.size, k * 3, none⟩ (.int .i64 (peAt s k).area)).setCell ⟨w.heap.size, k * 3 + 1, none⟩ (.int .i64 (peAt s k).house)).setCell ⟨w.heap.size, k * 3 + 2, none⟩ (.slice a3 (peAt s k).vals.length c3)) :=
          (((Upd.refl (S := fun c => c = w.heap.size) w1).setCell (a := ⟨w.heap.size, k * 3, none⟩) _ (fun _ => rfl)).setCell (a := ⟨w.heap.size, k * 3 + 1, none⟩) _ (fun _ => rfl)).setCell (a := ⟨w.heap.size, k * 3 + 2, none⟩) _ (fun _ => rfl)
        have hold : ∀ j, j < k → rvAt (rvs ++ [.slice a3 (peAt s k).vals.length c3]) j = rvAt rvs j := fun j hj => rvAt_append_left (by rw [HN.out]; exact hj)
        have hnew : rvAt (rvs ++ [.slice a3 (peAt s k).vals.length c3]) k = (.slice a3 (peAt s k).vals.length c3) := by have := @rvAt_append_len rvs (.slice a3 (peAt s k).vals.length c3); rwa [HN.out] at this
        refine ⟨k + 1, rvs ++ [.slice a3 (peAt s k).vals.length c3], by omega, by go_num, by simp [HN.out], (((HR1.out.set (k * 3) _).set (k * 3 + 1) _).set (k * 3 + 2) _).congr (fun j hj => ?_), fun j hj => ?_, fun i j hi hj hij hri hrj => ?_, (((hx.trans u1).setCell _ (Nat.le_refl _)).setCell _ (Nat.le_refl _)).setCell _ (Nat.le_refl _)⟩
        · by_cases e2 : j = k * 3 + 2
          · subst e2; rw [if_pos rfl, if_pos (by omega), peCell2, hnew]
          · rw [if_neg e2]
            by_cases e1 : j = k * 3 + 1
            · subst e1; rw [if_pos rfl, if_pos (by omega), peCell1]
            · rw [if_neg e1]
              by_cases e0 : j = k * 3
              · subst e0; rw [if_pos rfl, if_pos (by omega), peCell0]
              · rw [if_neg e0]
                by_cases e : j < k * 3
                · rw [if_pos e, if_pos (by omega)]
                  simp only [peCell, hold (j / 3) (by omega)]
                · rw [if_neg e, if_neg (by omega)]
        · rw [hsz]
          by_cases e : j = k
          · subst e; rw [hnew]
            exact (HO1.out.upd hu (fun hne => HO1.out.ne_rowT HR1.out (by decide) hne)).mono hx.size (Nat.le_refl _)
          · have hj' : j < k := by omega
            rw [hold j hj']
            have h1 := (HO.out j hj').ext u1
            exact (h1.upd hu (fun hne => h1.ne_rowT HR1.out (by decide) hne)).mono (Nat.le_refl _) u1.size
        · by_cases ei : i = k
          · subst ei
            have hj' : j < i := by omega
            rw [hnew, hold j hj']
            have a1 := HO1.out.range hri
            have a2 := (HO.out j hj').range hrj
            omega
          · have hi' : i < k := by omega
            rw [hold i hi']
            by_cases ej : j = k
            · subst ej
              rw [hnew]
              have a1 := HO1.out.range hrj
              have a2 := (HO.out i hi').range hri
              omega
            · have hj' : j < k := by omega
              rw [hold j hj']; exact HD.out i j hi' hj' hij hri hrj
      case measure => simp [intOf]; omega
    · have hkl : k = s.length := by omega
      have HK := Lib.hid hkl; clear hkl
      go_wp2
      go_ret
      refine ⟨_, rvs, rfl, ⟨some ⟨w.heap.size, 0, none⟩, s.length, rfl, Nat.le_refl _, by omega, HN.out.trans HK.out, ?_, fun j hj => HO.out j (by rw [HK.out]; exact hj), fun i j hi hj => HD.out i j (by rw [HK.out]; exact hi) (by rw [HK.out]; exact hj)⟩, hx⟩
      exact OwnC.of_rowIs (HR.out.congr (fun j hj => by rw [if_pos (by have := HK.out; omega)])) (Nat.le_refl _) HR.out.lt
end Go.Proofs.Ytkkoidoinbiikaa

