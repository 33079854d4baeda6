/- Contracts of the laws' own helpers over slices of records. -/
import Derived.Test.YtedkhopclgjicaaVrB
namespace Go.Proofs.Ytedkhopclgjicaa
open Go.RowKit

/-- how many marks the first k records take -/
def pz (l : List Pe) (k : Nat) : Nat := ((l.take k).map fun r => r.vals.length + 2).sum
theorem pz_zero (l : List Pe) : pz l 0 = 0 := by simp [pz]
theorem pz_succ {l : List Pe} {k : Nat} (h : k < l.length) : pz l (k + 1) = pz l k + ((peAt l k).vals.length + 2) := by
  simp [pz, take_succ_pe h]
theorem pz_le (l : List Pe) (k : Nat) : pz l k ≤ pz l l.length := by
  have h := sum_take_le (l.map fun r => r.vals.length + 2) k
  have e : l.take l.length = l := List.take_of_length_le (Nat.le_refl _)
  unfold pz
  rw [e, List.map_take]
  exact h
def PeSmall (l : List Pe) : Prop := l.length ≤ 1048576 ∧ (∀ k, k < l.length → (peAt l k).vals.length ≤ 1048576) ∧ pz l l.length ≤ 2097152
def MarkedP (k0 : Int) (l l' : List Pe) : Prop := l'.length = l.length ∧ ∀ k, k < l.length → peAt l' k = ⟨k0 + pz l k, k0 + pz l k + 1, seqI (k0 + pz l k + 2) (peAt l k).vals.length⟩
theorem peAt_set {l : List Pe} {k j : Nat} {x : Pe} : peAt (l.set k x) j = if j = k ∧ k < l.length then x else peAt l j := by
  simp only [peAt, List.getD, List.getElem?_set]
  by_cases h : k = j
  · subst h
    by_cases h2 : k < l.length <;> simp [h2]
  · have h' : ¬ j = k := fun e => h e.symm
    simp [h, h']
theorem PB.of_shape {v : Value} {rvs : List Value} {l l' : List Pe} {b : Nat} (hl : l'.length = l.length) (hv : ∀ k, k < l.length → (peAt l' k).vals.length = (peAt l k).vals.length) (h : PB v rvs l' b) : PB v rvs l b := by
  rcases h with ⟨h1, h2⟩ | ⟨k, hk, hr, e⟩
  · exact .inl ⟨fun e => h1 (List.eq_nil_of_length_eq_zero (by rw [hl, e]; rfl)), h2⟩
  · rw [hl] at hk
    exact .inr ⟨k, hk, fun e2 => hr (List.eq_nil_of_length_eq_zero (by rw [hv k hk, e2]; rfl)), e⟩
theorem MarkedP.shape {k0 : Int} {l l' : List Pe} (h : MarkedP k0 l l') : ∀ k, k < l.length → (peAt l' k).vals.length = (peAt l k).vals.length := by
  intro k hk; rw [h.2 k hk]; exact seqI_length _ _

namespace OwnPA
variable {T lo hi : Nat} {w w' : World} {ao : Option Addr} {rvs : List Value} {l : List Pe}
/-- area and house of a record are stored anew -/
theorem put2 {b o : Nat} (h : OwnPA T lo hi w (some ⟨b, o, none⟩) rvs l) (hT : T ≠ 3) {k : Nat} (hk : k < l.length) (A H : Int) :
    OwnPA T lo hi ((w.setCell ⟨b, o + k * 3, none⟩ (.int .i64 A)).setCell ⟨b, o + k * 3 + 1, none⟩ (.int .i64 H)) (some ⟨b, o, none⟩) rvs (l.set k ⟨A, H, (peAt l k).vals⟩) := by
  have hs : ∀ j, (peAt (l.set k ⟨A, H, (peAt l k).vals⟩) j).vals = (peAt l j).vals := by
    intro j; rw [peAt_set]
    split
    · rename_i e; rw [e.1]
    · rfl
  have hap : ∀ j, j < l.length → (peAt l j).vals ≠ [] → blk (rvAt rvs j) ≠ b := fun j hj hr => h.apart hT hj hr
  refine ⟨by simpa using h.len, ?_, fun j hj => ?_, fun i j hi hj hij hri hrj => ?_⟩
  · have h1 := (h.spine.set (i := k * 3) (by omega) (.int .i64 A)).set (i := k * 3 + 1) (by omega) (.int .i64 H)
    rw [← Nat.add_assoc] at h1
    have e : (l.set k ⟨A, H, (peAt l k).vals⟩).length * 3 = l.length * 3 := by simp
    rw [e]
    refine h1.congr (fun j hj => ?_)
    by_cases e1 : j = k * 3 + 1
    · subst e1; rw [if_pos rfl, peCell1, peAt_set, if_pos ⟨rfl, hk⟩]
    · rw [if_neg e1]
      by_cases e0 : j = k * 3
      · subst e0; rw [if_pos rfl, peCell0, peAt_set, if_pos ⟨rfl, hk⟩]
      · rw [if_neg e0]
        simp only [peCell]
        by_cases e2 : j / 3 = k
        · have m2 : j % 3 = 2 := by omega
          simp [m2]
        · have hpe : peAt (l.set k ⟨A, H, (peAt l k).vals⟩) (j / 3) = peAt l (j / 3) := by rw [peAt_set, if_neg (fun x => e2 x.1)]
          rw [hpe]
  · have hj' : j < l.length := by simpa using hj
    rw [hs]
    have hu : Upd (fun c => c = b) w ((w.setCell ⟨b, o + k * 3, none⟩ (.int .i64 A)).setCell ⟨b, o + k * 3 + 1, none⟩ (.int .i64 H)) :=
      ((Upd.refl (S := fun c => c = b) w).setCell (a := ⟨b, o + k * 3, none⟩) (.int .i64 A) (fun _ => rfl)).setCell (a := ⟨b, o + k * 3 + 1, none⟩) (.int .i64 H) (fun _ => rfl)
    exact (h.row j hj').upd hu (fun hr e => hap j hj' hr e)
  · rw [hs] at hri hrj
    exact h.diff i j (by simpa using hi) (by simpa using hj) hij hri hrj
/-- the values of a record are written anew -/
theorem putRow (h : OwnPA T lo hi w ao rvs l) (hT : T ≠ 3) {k : Nat} (hk : k < l.length) {ys : List Int} (hl : ys.length = (peAt l k).vals.length) (hrow : Own lo hi w' (rvAt rvs k) ys)
    (u : Upd (fun b => (peAt l k).vals ≠ [] ∧ b = blk (rvAt rvs k)) w w') : OwnPA T lo hi w' ao rvs (l.set k ⟨(peAt l k).area, (peAt l k).house, ys⟩) := by
  have hne : ∀ j, (peAt (l.set k ⟨(peAt l k).area, (peAt l k).house, ys⟩) j).vals ≠ [] → (peAt l j).vals ≠ [] := by
    intro j hj e
    rw [peAt_set] at hj
    split at hj
    · rename_i x; rw [x.1] at e
      exact hj (List.eq_nil_of_length_eq_zero (by show ys.length = 0; rw [hl, e]; rfl))
    · exact hj e
  refine ⟨by simpa using h.len, ?_, fun j hj => ?_, fun i j hi hj hij hri hrj => h.diff i j (by simpa using hi) (by simpa using hj) hij (hne i hri) (hne j hrj)⟩
  · have e : (l.set k ⟨(peAt l k).area, (peAt l k).house, ys⟩).length * 3 = l.length * 3 := by simp
    rw [e]
    refine (h.spine.upd u (fun hn s => h.apart hT hk s.1 s.2.symm)).congr (fun j hj => ?_)
    simp only [peCell]
    by_cases e2 : j / 3 = k
    · have hpe : peAt (l.set k ⟨(peAt l k).area, (peAt l k).house, ys⟩) (j / 3) = ⟨(peAt l k).area, (peAt l k).house, ys⟩ := by rw [peAt_set, if_pos ⟨e2, hk⟩]
      rw [hpe, e2]
    · have hpe : peAt (l.set k ⟨(peAt l k).area, (peAt l k).house, ys⟩) (j / 3) = peAt l (j / 3) := by rw [peAt_set, if_neg (fun x => e2 x.1)]
      rw [hpe]
  · have hj' : j < l.length := by simpa using hj
    rw [peAt_set]
    split
    · rename_i x; rw [x.1]; exact hrow
    · rename_i x
      have hjk : j ≠ k := fun e => x ⟨e, hk⟩
      exact (h.row j hj').upd u (fun hr s => h.diff j k hj' hk hjk hr s.1 s.2)
end OwnPA

set_option maxHeartbeats 400000 in
theorem szRecord_c (ar ho left : Int) (a : Option Addr) (n c : Nat) (w : World) (hn : n ≤ 9223372036854775807) (h0 : 0 ≤ left ∧ left ≤ 1048576) :
    Calls Try.prog 15 #[.agg #[.int .i64 ar, .int .i64 ho, .slice a n c], .int .i64 left] w fun e w' => e = .returned (.int .i64 (szI left n)) ∧ Ext w w' := by
  have u0 := (Ext.refl w).alloc (.cells #[.int .i64 ar, .int .i64 ho, .slice a n c] 43)
  have b0 := Box.new w 43 #[.int .i64 ar, .int .i64 ho, .slice a n c] rfl
  have c2 := b0.cell 2 (by simp)
  rcases szI_cases left n with ⟨e, e2⟩ | ⟨e, e2⟩
  · have E := Lib.hid e; clear e
    go_enter Try.func15, Try.ntmps15
    go_wp2_with fail
    refine (szIntS_c a n c left _ hn h0).mono ?_
    rw [E.out]
    rintro e w' ⟨rfl, rfl⟩
    go_wp2
    go_ret
    exact ⟨ret_int (by rw [E.out]), u0⟩
  · have E := Lib.hid e; clear e
    go_enter Try.func15, Try.ntmps15
    go_wp2_with fail
    refine (szIntS_c a n c left _ hn h0).mono ?_
    rw [E.out]
    rintro e w' ⟨rfl, rfl⟩
    go_wp2
    go_ret
    exact ⟨ret_int (by rw [E.out]), u0⟩
set_option maxHeartbeats 800000 in
theorem szRecordS_c (v : Value) (s : List Pe) (left : Int) (w : World) (h : Pes w v s) (h0 : 0 ≤ left ∧ left ≤ 1048576) :
    Calls Try.prog 5 #[v, .int .i64 left] w fun e w' => ∃ r, e = .returned (.int .i64 r) ∧ (r < 0 ∨ (0 ≤ r ∧ r ≤ left ∧ PeSmall s)) ∧ Ext w w' := by
  obtain ⟨ao, cap, rfl, h1, h2, h3⟩ := h
  have G := Lib.hid h3; clear h3
  have h9 : (s.length : Int) ≤ 9223372036854775807 := by omega
  by_cases hb : left - (s.length : Int) < 0
  · go_enter Try.func5, Try.ntmps5
    go_wp2
    all_goals go_ret
    all_goals exact ⟨_, rfl, .inl (by omega), Ext.refl w⟩
  · have hl8 : s.length ≤ 1048576 := by omega
    have HB := Lib.hid hb; clear hb
    go_enter Try.func5, Try.ntmps5
    go_wp2
    go_loopw [1, 5] (fun t i wr => ∃ (k : Nat) (l : Int), k ≤ s.length ∧ i = .int .i64 k ∧ t = .int .i64 l ∧ 0 ≤ l ∧ l ≤ left ∧ l + pz s k = left - s.length + 2 * k ∧ (∀ j, j < k → (peAt s j).vals.length ≤ 1048576) ∧ Ext w wr) (fun _ i _ => s.length - (intOf i).toNat)
    case atStart => exact ⟨0, left - s.length, Nat.zero_le _, rfl, rfl, by have := HB.out; omega, by omega, by simp [pz_zero], (fun j hj => by omega), Ext.refl w⟩
    case round =>
      obtain ⟨k, l, hk, rfl, rfl, hl0, hl1, hq, hj, hx⟩ := hrel
      have HJ := Lib.hid hj; clear hj
      have HQ := Lib.hid hq; clear hq
      by_cases hlt : k < s.length
      · obtain ⟨b, o, ar, cr, rfl, hc0, hc1, hc2, r1, r2, r3⟩ := (G.out.ext hx).at_ hlt
        clear r3
        have HPS := Lib.hid (pz_succ hlt)
        rcases szI_cases l (peAt s k).vals.length with ⟨e, e2⟩ | ⟨e, e2⟩
        · have E := Lib.hid e; clear e
          go_wp2_with fail
          refine (szRecord_c _ _ l _ _ _ _ (by omega) (by omega)).mono ?_
          rw [E.out]
          rintro e w1 ⟨rfl, u1⟩
          go_wp2
          go_ret
          exact ⟨_, rfl, .inl (by omega), hx.trans u1⟩
        · have E := Lib.hid e; clear e
          have HJ2 : Hid (∀ j, j < k + 1 → (peAt s j).vals.length ≤ 1048576) := Lib.hid (fun j hj => by
            by_cases e : j = k
            · subst e; omega
            · exact HJ.out j (by omega))
          go_wp2_with fail
          refine (szRecord_c _ _ l _ _ _ _ (by omega) (by omega)).mono ?_
          rw [E.out]
          rintro e w1 ⟨rfl, u1⟩
          go_wp2
          go_roundw
          case rel => exact ⟨k + 1, _, by omega, by go_num, rfl, by omega, by omega, by rw [HPS.out]; have := HQ.out; omega, HJ2.out, hx.trans u1⟩
          case measure => simp [intOf]; omega
      · have hkl : k = s.length := by omega
        have HK := Lib.hid hkl; clear hkl
        go_wp2
        go_ret
        exact ⟨_, rfl, .inr ⟨hl0, hl1, hl8, fun j hj => HJ.out j (by have := HK.out; omega), by have h1 := HQ.out; rw [HK.out] at h1; omega⟩, hx⟩
set_option maxHeartbeats 400000 in
theorem toRecord_c (v : Value) (r : Pe) (w : World) (h : PeR w v r) (hl : r.vals.length ≤ 1048576) :
    Calls Try.prog 21 #[v] w fun e w' => ∃ rv, e = .returned (.agg #[.int .i64 r.area, .int .i64 r.house, rv]) ∧ Own w.heap.size w'.heap.size w' rv r.vals ∧ Ext w w' := by
  obtain ⟨rv, rfl, hi⟩ := h
  have HI := Lib.hid hi
  obtain ⟨a, c, rfl, p1, p2, p3⟩ := hi
  clear p3
  obtain ⟨A, hA⟩ : ∃ A, r.area = A := ⟨_, rfl⟩
  obtain ⟨H, hH⟩ : ∃ H, r.house = H := ⟨_, rfl⟩
  obtain ⟨xs, hxs⟩ : ∃ xs, r.vals = xs := ⟨_, rfl⟩
  rw [hxs] at HI hl p1
  rw [hA, hH, hxs]
  clear hA hH hxs
  have bx := ((Box.new w 43 #[.int .i64 A, .int .i64 H, .slice a xs.length c] rfl).alloc (.cells #[.int .i64 0, .int .i64 0, .slice none 0 0] 46)).alloc (.cells #[.int .i64 A, .int .i64 H, .slice none 0 0] 46)
  have cx := bx.cell 2 (by simp)
  have u0 := (((Ext.refl w).alloc (.cells #[.int .i64 A, .int .i64 H, .slice a xs.length c] 43)).alloc (.cells #[.int .i64 0, .int .i64 0, .slice none 0 0] 46)).alloc (.cells #[.int .i64 A, .int .i64 H, .slice none 0 0] 46)
  go_enter Try.func21, Try.ntmps21
  go_wp2_with fail
  refine (toIntS_c _ xs _ (HI.out.ext u0) hl).mono ?_
  rintro e w1 ⟨v', rfl, o1, u1⟩
  have br := ((Box.new (w.alloc (.cells #[.int .i64 A, .int .i64 H, .slice a xs.length c] 43)) 46 #[.int .i64 0, .int .i64 0, .slice none 0 0] (b := w.heap.size + 1) (by simp)).alloc (.cells #[.int .i64 A, .int .i64 H, .slice none 0 0] 46)).ext u1
  have bo := (Box.new ((w.alloc (.cells #[.int .i64 A, .int .i64 H, .slice a xs.length c] 43)).alloc (.cells #[.int .i64 0, .int .i64 0, .slice none 0 0] 46)) 46 #[.int .i64 A, .int .i64 H, .slice none 0 0] (b := w.heap.size + 1 + 1) (by simp)).ext u1
  have SZ : Hid (w.heap.size + 1 + 1 + 1 ≤ w1.heap.size) := Lib.hid bo.lt
  have O := Lib.hid o1
  obtain ⟨a2, c2, rfl, _, _, q3⟩ := o1
  clear q3
  have k0 := bo.cell 0 (by simp)
  have k1 := bo.cell 1 (by simp)
  have k2 := bo.cell 2 (by simp)
  have f2 := bo.free 2
  have l0 := br.cell 0 (by simp)
  have l1 := br.cell 1 (by simp)
  have l2 := br.cell 2 (by simp)
  have g0 := br.free 0
  have g1 := br.free 1
  have g2 := br.free 2
  have hlo : (((w.alloc (.cells #[.int .i64 A, .int .i64 H, .slice a xs.length c] 43)).alloc (.cells #[.int .i64 0, .int .i64 0, .slice none 0 0] 46)).alloc (.cells #[.int .i64 A, .int .i64 H, .slice none 0 0] 46)).heap.size = w.heap.size + 1 + 1 + 1 := by simp
  rw [hlo] at O
  clear hlo
  have UX := Lib.hid (u0.trans u1)
  clear u0 u1 bx cx
  go_wp2
  refine bodyPost_ret (v := .agg #[.int .i64 A, .int .i64 H, .slice a2 xs.length c2]) (by simp [results, Try.results21, go_sem, l0, l1, l2]) rfl ⟨_, rfl, ?_, ?_⟩
  · have hsz : ((((w1.setCell ⟨w.heap.size + 1 + 1, 2, none⟩ (.slice a2 xs.length c2)).setCell ⟨w.heap.size + 1, 0, none⟩ (.int .i64 A)).setCell ⟨w.heap.size + 1, 1, none⟩ (.int .i64 H)).setCell ⟨w.heap.size + 1, 2, none⟩ (.slice a2 xs.length c2)).heap.size = w1.heap.size := by simp [World.setCell]
    rw [hsz]
    exact ((((O.out.put_away ⟨w.heap.size + 1 + 1, 2, none⟩ _ (.inl (by simp only; omega))).put_away ⟨w.heap.size + 1, 0, none⟩ _ (.inl (by simp only; omega))).put_away ⟨w.heap.size + 1, 1, none⟩ _ (.inl (by simp only; omega))).put_away ⟨w.heap.size + 1, 2, none⟩ _ (.inl (by simp only; omega))).mono (by omega) (Nat.le_refl _)
  · exact (((UX.out.setCell (a := ⟨w.heap.size + 1 + 1, 2, none⟩) _ (by simp only; omega)).setCell (a := ⟨w.heap.size + 1, 0, none⟩) _ (by simp only; omega)).setCell (a := ⟨w.heap.size + 1, 1, none⟩) _ (by simp only; omega)).setCell (a := ⟨w.heap.size + 1, 2, none⟩) _ (by simp only; omega)
theorem info_record : (Try.prog.info? 46).map (fun i => (i.zero, i.size, i.bytes)) = some (some (.agg #[.int .i64 0, .int .i64 0, .slice none 0 0]), 3, 40) := by kernel_rfl
/-- a block of another type lies elsewhere -/
theorem Own.ne_rowT {lo hi g n T : Nat} {f : Nat → Value} {w : World} {v : Value} {xs : List Int} (h : Own lo hi w v xs) (hr : w.rowIs g T n f) (hT : T ≠ 3) (hx : xs ≠ []) : blk v ≠ g := by
  obtain ⟨ao, cap, rfl, _, _, h3⟩ := h
  rcases h3 with h3 | ⟨g', o', c', rfl, _, _, hg', _⟩
  · exact absurd h3 hx
  · obtain ⟨c, hc, _, _⟩ := hr
    simp only [blk, ablk]
    intro e; subst e; rw [hc] at hg'; simp at hg'; exact hT hg'.2
set_option maxHeartbeats 1600000 in
theorem toRecordS_c (v : Value) (s : List Pe) (w : World) (h : Pes w v s) (hs : PeSmall s) :
    Calls Try.prog 8 #[v] w fun e w' => ∃ v' rvs, e = .returned v' ∧ OwnP 46 w.heap.size w'.heap.size w' v' rvs s ∧ Ext w w' := by
  obtain ⟨ao, cap, rfl, h1, h2, h3⟩ := h
  have G := Lib.hid h3; clear h3
  obtain ⟨hl, hv, _⟩ := hs
  have HV := Lib.hid hv; clear hv
  have hmk := run_make_wide (P := Try.prog) 31 46 (.agg #[.int .i64 0, .int .i64 0, .slice none 0 0]) 3 40 Try.underlying31 info_record .i64 .i64 s.length (by omega) (by omega)
  have hst := rowIs_made_wide w (Value.agg #[.int .i64 0, .int .i64 0, .slice none 0 0]).cells (s.length * 3) 46
  obtain ⟨Z, hZ⟩ : ∃ Z, (Value.agg #[.int .i64 0, .int .i64 0, .slice none 0 0]).cells = Z := ⟨_, rfl⟩
  rw [hZ] at hst
  simp only [hZ] at hmk
  clear hZ
  obtain ⟨f0, hf0⟩ : ∃ f : Nat → Value, (fun i => Z[i % Z.size]!) = f := ⟨_, rfl⟩
  rw [hf0] at hst
  clear hf0
  have HST := Lib.hid hst; clear hst
  go_enter Try.func8, Try.ntmps8
  go_wp2
  go_loopw [4] (fun i wr => ∃ (k : Nat) (rvs : List Value), k ≤ s.length ∧ i = .int .i64 k ∧ rvs.length = k ∧ wr.rowIs w.heap.size 46 (s.length * 3) (fun j => if j < k * 3 then peCell rvs s j else f0 j) ∧
    (∀ j, j < k → Own w.heap.size wr.heap.size wr (rvAt rvs j) (peAt s j).vals) ∧
    (∀ i j, i < k → j < k → i ≠ j → (peAt s i).vals ≠ [] → (peAt s j).vals ≠ [] → blk (rvAt rvs i) ≠ blk (rvAt rvs j)) ∧ Ext w wr) (fun i _ => s.length - (intOf i).toNat)
  case atStart => exact ⟨0, [], Nat.zero_le _, rfl, rfl, HST.out.congr (fun j _ => by simp), fun j hj => by omega, fun i j hi => by omega, (Ext.refl _).alloc _⟩
  case round =>
    clear HST
    obtain ⟨k, rvs, hk, rfl, hn, hrow, hown, hd, hx⟩ := hrel
    have HR := Lib.hid hrow; clear hrow
    have HO := Lib.hid hown; clear hown
    have HD := Lib.hid hd; clear hd
    have HN := Lib.hid hn; clear hn
    by_cases hlt : k < s.length
    · obtain ⟨b, o, ar, cr, rfl, hc0, hc1, hc2, r1, r2, r3⟩ := (G.out.ext hx).at_ hlt
      have R3 := Lib.hid r3; clear r3
      go_wp2_with fail
      refine (toRecord_c _ (peAt s k) _ ⟨_, rfl, ar, cr, rfl, r1, r2, R3.out⟩ (HV.out k hlt)).mono ?_
      rintro e w1 ⟨rv, rfl, o1, u1⟩
      have HO1 := Lib.hid o1
      obtain ⟨a3, c3, rfl, _, _, q3⟩ := o1
      clear q3
      have hrow1 := rowIs_ext HR.out u1
      have hfr0 := hrow1.frozen (k * 3)
      have hfr1 := hrow1.frozen (k * 3 + 1)
      have hfr2 := hrow1.frozen (k * 3 + 2)
      have hcell0 := hrow1.cell (i := k * 3) (by omega)
      have hcell1 := hrow1.cell (i := k * 3 + 1) (by omega)
      have hcell2 := hrow1.cell (i := k * 3 + 2) (by omega)
      have HR1 := Lib.hid hrow1; clear hrow1
      go_wp2
      go_roundw
      case rel =>
        have hsz : (((w1.setCell ⟨w.heap.size, k * 3, none⟩ (.int .i64 (peAt s k).area)).setCell ⟨w.heap.size, k * 3 + 1, none⟩ (.int .i64 (peAt s k).house)).setCell ⟨w.heap.size, k * 3 + 2, none⟩ (.slice a3 (peAt s k).vals.length c3)).heap.size = w1.heap.size := by simp [World.setCell]
        have hu : Upd (fun c => c = w.heap.size) w1 (((w1.setCell ⟨w.heap.size, k * 3, none⟩ (.int .i64 (peAt s k).area)).setCell ⟨w.heap.size, k * 3 + 1, none⟩ (.int .i64 (peAt s k).house)).setCell ⟨w.heap.size, k * 3 + 2, none⟩ (.slice a3 (peAt s k).vals.length c3)) :=
          (((Upd.refl (S := fun c => c = w.heap.size) w1).setCell (a := ⟨w.heap.size, k * 3, none⟩) _ (fun _ => rfl)).setCell (a := ⟨w.heap.size, k * 3 + 1, none⟩) _ (fun _ => rfl)).setCell (a := ⟨w.heap.size, k * 3 + 2, none⟩) _ (fun _ => rfl)
        have hold : ∀ j, j < k → rvAt (rvs ++ [.slice a3 (peAt s k).vals.length c3]) j = rvAt rvs j := fun j hj => rvAt_append_left (by rw [HN.out]; exact hj)
        have hnew : rvAt (rvs ++ [.slice a3 (peAt s k).vals.length c3]) k = (.slice a3 (peAt s k).vals.length c3) := by have := @rvAt_append_len rvs (.slice a3 (peAt s k).vals.length c3); rwa [HN.out] at this
        refine ⟨k + 1, rvs ++ [.slice a3 (peAt s k).vals.length c3], by omega, by go_num, by simp [HN.out], (((HR1.out.set (k * 3) _).set (k * 3 + 1) _).set (k * 3 + 2) _).congr (fun j hj => ?_), fun j hj => ?_, fun i j hi hj hij hri hrj => ?_, (((hx.trans u1).setCell _ (Nat.le_refl _)).setCell _ (Nat.le_refl _)).setCell _ (Nat.le_refl _)⟩
        · by_cases e2 : j = k * 3 + 2
          · subst e2; rw [if_pos rfl, if_pos (by omega), peCell2, hnew]
          · rw [if_neg e2]
            by_cases e1 : j = k * 3 + 1
            · subst e1; rw [if_pos rfl, if_pos (by omega), peCell1]
            · rw [if_neg e1]
              by_cases e0 : j = k * 3
              · subst e0; rw [if_pos rfl, if_pos (by omega), peCell0]
              · rw [if_neg e0]
                by_cases e : j < k * 3
                · rw [if_pos e, if_pos (by omega)]
                  simp only [peCell, hold (j / 3) (by omega)]
                · rw [if_neg e, if_neg (by omega)]
        · rw [hsz]
          by_cases e : j = k
          · subst e; rw [hnew]
            exact (HO1.out.upd hu (fun hne => HO1.out.ne_rowT HR1.out (by decide) hne)).mono hx.size (Nat.le_refl _)
          · have hj' : j < k := by omega
            rw [hold j hj']
            have h1 := (HO.out j hj').ext u1
            exact (h1.upd hu (fun hne => h1.ne_rowT HR1.out (by decide) hne)).mono (Nat.le_refl _) u1.size
        · by_cases ei : i = k
          · subst ei
            have hj' : j < i := by omega
            rw [hnew, hold j hj']
            have a1 := HO1.out.range hri
            have a2 := (HO.out j hj').range hrj
            omega
          · have hi' : i < k := by omega
            rw [hold i hi']
            by_cases ej : j = k
            · subst ej
              rw [hnew]
              have a1 := HO1.out.range hrj
              have a2 := (HO.out i hi').range hri
              omega
            · have hj' : j < k := by omega
              rw [hold j hj']; exact HD.out i j hi' hj' hij hri hrj
      case measure => simp [intOf]; omega
    · have hkl : k = s.length := by omega
      have HK := Lib.hid hkl; clear hkl
      go_wp2
      go_ret
      refine ⟨_, rvs, rfl, ⟨some ⟨w.heap.size, 0, none⟩, s.length, rfl, Nat.le_refl _, by omega, HN.out.trans HK.out, ?_, fun j hj => HO.out j (by rw [HK.out]; exact hj), fun i j hi hj => HD.out i j (by rw [HK.out]; exact hi) (by rw [HK.out]; exact hj)⟩, hx⟩
      exact OwnC.of_rowIs (HR.out.congr (fun j hj => by rw [if_pos (by have := HK.out; omega)])) (Nat.le_refl _) HR.out.lt
set_option maxHeartbeats 400000 in
theorem eqRecord_t (v1 v2 : Value) (r : Pe) (w : World) (h1 : PeR w v1 r) (h2 : PeR w v2 r) :
    Calls Try.prog 26 #[v1, v2] w fun e w' => e = .returned (.bool true) ∧ Ext w w' := by
  obtain ⟨r1, rfl, i1⟩ := h1
  obtain ⟨r2, rfl, i2⟩ := h2
  have I1 := Lib.hid i1; clear i1
  have I2 := Lib.hid i2; clear i2
  obtain ⟨A, hA⟩ : ∃ A, r.area = A := ⟨_, rfl⟩
  obtain ⟨H, hH⟩ : ∃ H, r.house = H := ⟨_, rfl⟩
  rw [hA, hH]
  clear hA hH
  have u0 := ((Ext.refl w).alloc (.cells #[.int .i64 A, .int .i64 H, r1] 46)).alloc (.cells #[.int .i64 A, .int .i64 H, r2] 46)
  have b1 := (Box.new w 46 #[.int .i64 A, .int .i64 H, r1] rfl).alloc (.cells #[.int .i64 A, .int .i64 H, r2] 46)
  have b2 := Box.new (w.alloc (.cells #[.int .i64 A, .int .i64 H, r1] 46)) 46 #[.int .i64 A, .int .i64 H, r2] (b := w.heap.size + 1) (by simp)
  have c1 := b1.cell 2 (by simp)
  have c2 := b2.cell 2 (by simp)
  go_enter Try.func26, Try.ntmps26
  go_wp2_with fail
  refine (eqIntS_b true _ _ r.vals r.vals _ (by simp) (I1.out.ext u0) (I2.out.ext u0)).mono ?_
  rintro e w1 ⟨rfl, d1⟩
  go_wp2
  go_ret
  exact ⟨rfl, u0.trans (Drew.ext d1)⟩
set_option maxHeartbeats 400000 in
theorem eqRecordS_t (v1 v2 : Value) (s : List Pe) (w : World) (h1 : Pes w v1 s) (h2 : Pes w v2 s) :
    Calls Try.prog 12 #[v1, v2] w fun e w' => e = .returned (.bool true) ∧ Ext w w' := by
  obtain ⟨a1, c1, rfl, e1, e2, g1⟩ := h1
  obtain ⟨a2, c2, rfl, e3, e4, g2⟩ := h2
  have G1 := Lib.hid g1; clear g1
  have G2 := Lib.hid g2; clear g2
  have hl1 : s.length ≤ 9223372036854775807 := by omega
  have hb : ((s.length : Int) != (s.length : Int)) = false := by simp
  go_enter Try.func12, Try.ntmps12
  go_wp2
  go_loopw [5] (fun i wr => ∃ k : Nat, k ≤ s.length ∧ i = .int .i64 k ∧ Ext w wr) (fun i _ => s.length - (intOf i).toNat)
  case atStart => exact ⟨0, Nat.zero_le _, rfl, Ext.refl _⟩
  case round =>
    obtain ⟨k, hk, rfl, hx⟩ := hrel
    obtain ⟨wo, rfl⟩ : ∃ wo : World, wo = wr := ⟨_, rfl⟩
    by_cases hlt : k < s.length
    · obtain ⟨b1, o1, ar1, cr1, rfl, d1, d1', d1'', p1, p2, p3⟩ := (G1.out.ext hx).at_ hlt
      obtain ⟨b2, o2, ar2, cr2, rfl, d2, d2', d2'', q1, q2, q3⟩ := (G2.out.ext hx).at_ hlt
      have P3 := Lib.hid p3; clear p3
      have Q3 := Lib.hid q3; clear q3
      obtain ⟨A, hA⟩ : ∃ A, (peAt s k).area = A := ⟨_, rfl⟩
      obtain ⟨H, hH⟩ : ∃ H, (peAt s k).house = H := ⟨_, rfl⟩
      obtain ⟨xs, hxs⟩ : ∃ xs, (peAt s k).vals = xs := ⟨_, rfl⟩
      rw [hA] at d1 d2
      rw [hH] at d1' d2'
      rw [hxs] at d1'' d2'' P3 Q3 p1 q1
      clear hA hH hxs
      have hk0 : (0 : Int) ≤ (k : Int) := by omega
      have hk1 : (k : Int) < (s.length : Int) := by omega
      go_wp2_with fail
      go_region_held3 (fun w' => w'.cell? ⟨b1, o1 + k * 3, none⟩ = some (.int .i64 A) ∧ w'.cell? ⟨b1, o1 + k * 3 + 1, none⟩ = some (.int .i64 H) ∧ w'.cell? ⟨b1, o1 + k * 3 + 2, none⟩ = some (.slice ar1 xs.length cr1) ∧ w'.cell? ⟨b2, o2 + k * 3, none⟩ = some (.int .i64 A) ∧ w'.cell? ⟨b2, o2 + k * 3 + 1, none⟩ = some (.int .i64 H) ∧ w'.cell? ⟨b2, o2 + k * 3 + 2, none⟩ = some (.slice ar2 xs.length cr2))
        (first | exact ⟨Ext.cell u1 d1, Ext.cell u1 d1', Ext.cell u1 d1'', Ext.cell u1 d2, Ext.cell u1 d2', Ext.cell u1 d2''⟩ | go_keep)
        ((first | (go_at_call 26; refine (eqRecord_t _ _ ⟨A, H, xs⟩ _ ⟨_, rfl, ar1, cr1, rfl, p1, p2, P3.out.ext (Ext.refl _).drew⟩ ⟨_, rfl, ar2, cr2, rfl, q1, q2, Q3.out.ext (Ext.refl _).drew⟩).mono ?_; rintro e w1 ⟨rfl, u1⟩)))
      go_wp2
      go_roundw
      case rel => exact ⟨k + 1, by omega, by go_num, (hx.drew).trans u1⟩
      case measure => simp [intOf]; omega
    · go_wp2
      go_ret
      exact ⟨rfl, hx⟩
end Go.Proofs.Ytedkhopclgjicaa
