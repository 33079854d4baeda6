/- Sums of rows and columns, the spec's and the program's. -/
import Derived.Test.YtodnkahnbidgaaaCell
import Derived.Test.YtodnkahnbidgaaaApp
import Derived.Test.YtodnkahnbidgaaaBase
namespace Go.Proofs.Ytodnkahnbidgaaa
open Go.RowKit

def rowS (xss : List (List Int)) : List Int := (List.range xss.length).map fun i => (rowAt xss i).sum
def colOf (xss : List (List Int)) (j : Nat) : List Int := (List.range xss.length).map fun i => ix (rowAt xss i) j
def colS (xss : List (List Int)) (m : Nat) : List Int := (List.range m).map fun j => (colOf xss j).sum
theorem rowS_length (xss : List (List Int)) : (rowS xss).length = xss.length := by simp [rowS]
theorem colS_length (xss : List (List Int)) (m : Nat) : (colS xss m).length = m := by simp [colS]
theorem colOf_length (xss : List (List Int)) (j : Nat) : (colOf xss j).length = xss.length := by simp [colOf]
theorem ix_rowS {xss : List (List Int)} {i : Nat} (h : i < xss.length) : ix (rowS xss) i = (rowAt xss i).sum := by simp [ix, rowS, List.getD, h]
theorem ix_colS {xss : List (List Int)} {m j : Nat} (h : j < m) : ix (colS xss m) j = (colOf xss j).sum := by simp [ix, colS, List.getD, h]
theorem ix_colOf {xss : List (List Int)} {i j : Nat} (h : i < xss.length) : ix (colOf xss j) i = ix (rowAt xss i) j := by simp [ix, colOf, List.getD, h]
/-- the elements lie within a million of 0, and the sides are short -/
def Tame (xss : List (List Int)) : Prop := xss.length ≤ 1000 ∧ ∀ i, i < xss.length → (rowAt xss i).length ≤ 1000 ∧ ∀ j, j < (rowAt xss i).length → -1000000 ≤ ix (rowAt xss i) j ∧ ix (rowAt xss i) j ≤ 1000000
theorem tame_mem {xs : List Int} (h : ∀ j, j < xs.length → -1000000 ≤ ix xs j ∧ ix xs j ≤ 1000000) : ∀ x ∈ xs, -1000000 ≤ x ∧ x ≤ 1000000 := by
  intro x hx
  obtain ⟨j, hj, rfl⟩ := List.getElem_of_mem hx
  rw [← ix_eq hj]; exact h j hj
theorem sum_tame {xs : List Int} (h : ∀ j, j < xs.length → -1000000 ≤ ix xs j ∧ ix xs j ≤ 1000000) (hl : xs.length ≤ 1000) (k : Nat) : -1000000000 ≤ (xs.take k).sum ∧ (xs.take k).sum ≤ 1000000000 := by
  have h1 := sum_abs_le (B := 1000000) (xs := xs.take k) (fun x hx => tame_mem h x (List.mem_of_mem_take hx))
  have h2 : (xs.take k).length ≤ 1000 := by simp; omega
  omega
theorem Tame.row {xss : List (List Int)} (h : Tame xss) {i : Nat} (hi : i < xss.length) (k : Nat) : -1000000000 ≤ ((rowAt xss i).take k).sum ∧ ((rowAt xss i).take k).sum ≤ 1000000000 :=
  sum_tame (h.2 i hi).2 (h.2 i hi).1 k
theorem Tame.col {xss : List (List Int)} (h : Tame xss) {j : Nat} (hj : ∀ i, i < xss.length → j < (rowAt xss i).length) (k : Nat) : -1000000000 ≤ ((colOf xss j).take k).sum ∧ ((colOf xss j).take k).sum ≤ 1000000000 :=
  sum_tame (xs := colOf xss j) (fun i hi => by rw [colOf_length] at hi; rw [ix_colOf hi]; exact (h.2 i hi).2 j (hj i hi)) (by rw [colOf_length]; exact h.1) k
theorem sumOk_of {xs : List Int} (h : ∀ k, -1000000000 ≤ (xs.take k).sum ∧ (xs.take k).sum ≤ 1000000000) : SumOk xs := fun k => by have := h k; omega

set_option maxHeartbeats 400000 in
theorem tSum_c (v : Value) (xs : List Int) (w : World) (h : Ints w v xs) (hs : SumOk xs) :
    Calls Try.prog 66 #[v] w fun e w' => e = .returned (.int .i64 xs.sum) ∧ w' = w := by
  obtain ⟨ao, cap, rfl, h1, h2, h3⟩ := h
  have G := Lib.hid h3; clear h3
  have HS := Lib.hid hs; clear hs
  go_enter Try.func66, Try.ntmps66
  go_wp2
  go_loop [3, 8] (fun s i => ∃ k : Nat, k ≤ xs.length ∧ i = .int .i64 k ∧ s = .int .i64 (xs.take k).sum) (fun _ i => xs.length - (intOf i).toNat)
  case atStart => exact ⟨0, Nat.zero_le _, rfl, by simp⟩
  case round =>
    obtain ⟨k, hk, rfl, rfl⟩ := hrel
    by_cases hlt : k < xs.length
    · obtain ⟨b, o, rfl, hc⟩ := G.out k hlt
      have b1 := HS.out k
      have b2 := HS.out (k + 1)
      have e2 := Lib.hid (sum_take_succ hlt)
      rw [e2.out] at b2
      go_wp2
      go_round
      case rel => exact ⟨k + 1, by omega, by go_num, by rw [e2.out]⟩
      case measure => simp [intOf]; omega
    · go_wp2
      go_ret
      exact ⟨ret_int (by rw [List.take_of_length_le (by omega)]), rfl⟩

set_option maxHeartbeats 800000 in
theorem tColumn_c (v : Value) (xss : List (List Int)) (j : Nat) (w : World) (h : Grid w v xss) (hl : xss.length ≤ 1000) (hj : ∀ i, i < xss.length → j < (rowAt xss i).length) :
    Calls Try.prog 67 #[v, .int .i64 j] w (RetInts (fun v' => v') w (colOf xss j)) := by
  obtain ⟨ao, cap, rfl, h1, h2, h3⟩ := h
  have G := Lib.hid h3; clear h3
  have HJ := Lib.hid hj; clear hj
  go_enter Try.func67, Try.ntmps67
  go_wp2
  go_loopw [5, 10] (fun r i wr => ∃ k : Nat, k ≤ xss.length ∧ i = .int .i64 k ∧ IRow w.heap.size wr r ((colOf xss j).take k) ∧ Ext w wr) (fun _ i _ => xss.length - (intOf i).toNat)
  case atStart => exact ⟨0, Nat.zero_le _, rfl, by simpa using IRow.nil, Ext.refl w⟩
  case round =>
    obtain ⟨k, hk, rfl, hr, hx⟩ := hrel
    obtain ⟨wo, rfl⟩ : ∃ wo : World, wo = wr := ⟨_, rfl⟩
    by_cases hlt : k < xss.length
    · obtain ⟨b', o', ar, cr, rfl, hc, r1, r2, r3⟩ := (G.out.ext hx).at_ hlt
      have hjl := HJ.out k hlt
      obtain ⟨bx, ox, rfl, hcx⟩ := r3 j hjl
      clear r3
      obtain ⟨x, hxx⟩ : ∃ x, ix (rowAt xss k) j = x := ⟨_, rfl⟩
      rw [hxx] at hcx
      have HXX := Lib.hid hxx; clear hxx
      have HR := Lib.hid hr
      have htk : ((colOf xss j).take k).length = k := by simp [colOf_length]; omega
      have hown := hr
      unfold IRow at hown
      rw [htk] at hown
      have HOWN := Lib.hid hown; clear hown hr
      have HTK := Lib.hid htk; clear htk
      have hs := hx.size
      go_wp2_with (at_builtin; go_loud (refine app1 _ rfl _ _ 36 3 rfl (.int .i64 0) 8 Try.underlying36 info_int rfl w.heap.size _ k _ rfl (HOWN.out.kept (row := none) ⟨((Ext.refl _).alloc _).os, ((Ext.refl _).alloc _).tape, ((Ext.refl _).alloc _).output, ((Ext.refl _).alloc _).size, fun k hk _ => ((Ext.refl _).alloc _).block hk⟩ (by cases (Value.ownBlock _) <;> simp)) wo.heap.size 1 3 (.int .i64 x) rfl (Box.new _ _ _ rfl) rfl (by omega) (by omega) (by simp; omega) ?_))
      intro g cp w3 hown3 hgrow hat hlt3
      have h3 := HR.out.ext ((Ext.refl _).alloc (.cells #[.int .i64 x] 3))
      have hx3 := h3.grew (hx.alloc _) (by omega) hgrow
      have HO3 := Lib.hid hown3; clear hown3
      have HX3 := Lib.hid hx3; clear hx3
      clear hgrow
      go_wp2
      go_roundw
      case rel => exact ⟨k + 1, by omega, by go_num, by
        rw [take_succ_ix (by rw [colOf_length]; exact hlt), ix_colOf hlt, HXX.out]
        exact IRow.push (by rw [HTK.out, List.map_take]; exact HO3.out), HX3.out⟩
      case measure => simp [intOf]; omega
    · have hkk : (colOf xss j).take k = colOf xss j := by rw [List.take_of_length_le]; rw [colOf_length]; omega
      rw [hkk] at hr
      go_wp2
      go_ret
      exact ⟨_, rfl, hr.own (Nat.le_refl _), hx⟩

set_option maxHeartbeats 1600000 in
theorem rowSums_c (v : Value) (xss : List (List Int)) (w : World) (h : Grid w v xss) (ht : Tame xss) :
    Calls Try.prog 73 #[v] w (RetInts (fun v' => v') w (rowS xss)) := by
  obtain ⟨ao, cap, rfl, h1, h2, h3⟩ := h
  have G := Lib.hid h3; clear h3
  have hl := ht.1
  have HT := Lib.hid ht; clear ht
  have hmk : ∀ w : World, (Instr.makeSlice 36 (.int .i64 (xss.length : Int)) (.int .i64 (xss.length : Int))).run Try.prog w = .ok (.slice (some ⟨w.heap.size, 0, none⟩) xss.length xss.length) (w.alloc (.cells (madeCells #[.int .i64 0] xss.length) 3)) :=
    fun w => run_make_row' (P := Try.prog) 36 3 (.int .i64 0) 8 Try.underlying36 info_int rfl .i64 .i64 xss.length (by omega) (by omega) w
  go_enter Try.func73, Try.ntmps73
  go_wp2
  go_loopw [13] (fun i wr => ∃ k : Nat, k ≤ xss.length ∧ i = .int .i64 k ∧ wr.rowIs w.heap.size 3 xss.length (fun j => if j < k then .int .i64 (rowAt xss j).sum else .int .i64 0) ∧ Ext w wr) (fun i _ => xss.length - (intOf i).toNat)
  case atStart => exact ⟨0, Nat.zero_le _, rfl, (World.rowIs_made _ _ _ _).congr (fun j _ => by simp), (Ext.refl w).alloc _⟩
  case round =>
    obtain ⟨k, hk, rfl, hr, hx⟩ := hrel
    have HR := Lib.hid hr; clear hr
    obtain ⟨wo, rfl⟩ : ∃ wo : World, wo = wr := ⟨_, rfl⟩
    by_cases hlt : k < xss.length
    · obtain ⟨b', o', ar, cr, rfl, hc, r1, r2, r3⟩ := (G.out.at_ hlt)
      have R3 := Lib.hid r3; clear r3
      have ec := Ext.cell hx hc
      go_wp2
      go_loopw [20] (fun i wr => ∃ l : Nat, l ≤ (rowAt xss k).length ∧ i = .int .i64 l ∧ wr.rowIs w.heap.size 3 xss.length (fun j => if j = k then .int .i64 ((rowAt xss k).take l).sum else if j < k then .int .i64 (rowAt xss j).sum else .int .i64 0) ∧ Ext w wr) (fun i _ => (rowAt xss k).length - (intOf i).toNat)
      case atStart => exact ⟨0, Nat.zero_le _, rfl, HR.out.congr (fun j _ => by
        by_cases e : j = k
        · subst e; simp
        · simp [e]), hx⟩
      case round =>
        obtain ⟨l, hl2, rfl, hr2, hx2⟩ := hrel
        by_cases hlt2 : l < (rowAt xss k).length
        · obtain ⟨bx, ox, rfl, hcx⟩ := R3.out l hlt2
          have ecx := Ext.cell hx2 hcx
          have hcell := hr2.cell hlt
          have hfr := hr2.frozen k
          simp only [if_true] at hcell
          have b1 := HT.out.row hlt l
          have b2 := HT.out.row hlt (l + 1)
          have e2 := Lib.hid (sum_take_succ hlt2)
          rw [e2.out] at b2
          have HR2 := Lib.hid hr2; clear hr2
          have k0 : (0 : Int) ≤ (k : Int) := by omega
          have k1 : (k : Int) < (xss.length : Int) := by omega
          go_wp2
          go_roundw
          case rel => exact ⟨l + 1, by omega, by go_num, (HR2.out.set k _).congr (fun j _ => by
            by_cases e : j = k
            · subst e; simp [e2.out]
            · simp [e]), hx2.setCell _ (Nat.le_refl _)⟩
          case measure => simp [intOf]; omega
        · have hll : (rowAt xss k).take l = rowAt xss k := List.take_of_length_le (by omega)
          have HLL := Lib.hid hll; clear hll
          have HR2 := Lib.hid hr2; clear hr2
          go_wp2
          go_roundw
          case rel => exact ⟨k + 1, by omega, by go_num, HR2.out.congr (fun j _ => by
            by_cases e : j = k
            · subst e; simp [HLL.out]
            · have : (j < k + 1) = (j < k) := by apply propext; omega
              simp [e, this]), hx2⟩
          case measure => simp [intOf]; omega
    · go_wp2
      go_ret
      have HRR := HR.out.congr (g := fun j => .int .i64 (ix (rowS xss) j)) (fun j hj => by rw [ix_rowS hj]; simp; omega)
      exact ⟨_, rfl, Own.of_rowIs HRR (rowS_length _) (fun j hj => rfl) (Nat.le_refl _) HRR.lt (by omega), hx⟩

set_option maxHeartbeats 1600000 in
theorem colSums_c (v : Value) (xss : List (List Int)) (m : Nat) (w : World) (h : Grid w v xss) (ht : Tame xss) (h0 : 0 < xss.length) (hm : ∀ i, i < xss.length → (rowAt xss i).length = m) :
    Calls Try.prog 74 #[v] w (RetInts (fun v' => v') w (colS xss m)) := by
  obtain ⟨ao, cap, rfl, h1, h2, h3⟩ := h
  have G := Lib.hid h3; clear h3
  have hl := ht.1
  have HT := Lib.hid ht; clear ht
  have hm0 := hm 0 h0
  have hm1 := (HT.out.2 0 h0).1
  rw [hm0] at hm1
  have HM := Lib.hid hm; clear hm
  have HM0 := Lib.hid hm0; clear hm0
  obtain ⟨b', o', ar, cr, rfl, hc, r1, r2, r3⟩ := (G.out.at_ h0)
  clear r3
  rw [HM0.out] at hc r1
  rw [Nat.add_zero] at hc
  have hmk : ∀ w : World, (Instr.makeSlice 36 (.int .i64 (m : Int)) (.int .i64 (m : Int))).run Try.prog w = .ok (.slice (some ⟨w.heap.size, 0, none⟩) m m) (w.alloc (.cells (madeCells #[.int .i64 0] m) 3)) :=
    fun w => run_make_row' (P := Try.prog) 36 3 (.int .i64 0) 8 Try.underlying36 info_int rfl .i64 .i64 m (by omega) (by omega) w
  have z0 : (0 : Int) < (xss.length : Int) := by omega
  go_enter Try.func74, Try.ntmps74
  go_wp2
  go_loopw [15] (fun i wr => ∃ k : Nat, k ≤ xss.length ∧ i = .int .i64 k ∧ wr.rowIs w.heap.size 3 m (fun j => .int .i64 ((colOf xss j).take k).sum) ∧ Ext w wr) (fun i _ => xss.length - (intOf i).toNat)
  case atStart => exact ⟨0, Nat.zero_le _, rfl, (World.rowIs_made _ _ _ _).congr (fun j _ => by simp), (Ext.refl w).alloc _⟩
  case round =>
    obtain ⟨k, hk, rfl, hr, hx⟩ := hrel
    have HR := Lib.hid hr; clear hr
    obtain ⟨wo, rfl⟩ : ∃ wo : World, wo = wr := ⟨_, rfl⟩
    by_cases hlt : k < xss.length
    · obtain ⟨b2', o2', ar2, cr2, hb2, hc2, s1, s2, s3⟩ := (G.out.at_ hlt)
      cases hb2
      have R3 := Lib.hid s3; clear s3
      have ec := Ext.cell hx hc2
      have hmk2 := HM.out k hlt
      have HMK := Lib.hid hmk2; clear hmk2
      go_wp2
      go_loopw [21] (fun i wr => ∃ l : Nat, l ≤ (rowAt xss k).length ∧ i = .int .i64 l ∧ wr.rowIs w.heap.size 3 m (fun j => if j < l then .int .i64 ((colOf xss j).take (k + 1)).sum else .int .i64 ((colOf xss j).take k).sum) ∧ Ext w wr) (fun i _ => (rowAt xss k).length - (intOf i).toNat)
      case atStart => exact ⟨0, Nat.zero_le _, rfl, HR.out.congr (fun j _ => by simp), hx⟩
      case round =>
        obtain ⟨l, hl2, rfl, hr2, hx2⟩ := hrel
        by_cases hlt2 : l < (rowAt xss k).length
        · obtain ⟨bx, ox, rfl, hcx⟩ := R3.out l hlt2
          have hlm : l < m := by have := HMK.out; omega
          have ecx := Ext.cell hx2 hcx
          have hcell := hr2.cell hlm
          have hfr := hr2.frozen l
          simp only [Nat.lt_irrefl, if_false] at hcell
          have hjj : ∀ i, i < xss.length → l < (rowAt xss i).length := fun i hi => by have := HM.out i hi; omega
          have b1 := HT.out.col hjj k
          have b2 := HT.out.col hjj (k + 1)
          have e2 := Lib.hid (show ((colOf xss l).take (k + 1)).sum = ((colOf xss l).take k).sum + ix (rowAt xss k) l by rw [sum_take_succ (by rw [colOf_length]; exact hlt), ix_colOf hlt])
          rw [e2.out] at b2
          clear hjj
          have HR2 := Lib.hid hr2; clear hr2
          have k0 : (0 : Int) ≤ (l : Int) := by omega
          have k1 : (l : Int) < (m : Int) := by omega
          go_wp2
          go_roundw
          case rel => exact ⟨l + 1, by omega, by go_num, (HR2.out.set l _).congr (fun j _ => by
            by_cases e : j = l
            · subst e; simp [e2.out]
            · have : (j < l + 1) = (j < l) := by apply propext; omega
              simp [e, this]), hx2.setCell _ (Nat.le_refl _)⟩
          case measure => simp [intOf]; omega
        · have HR2 := Lib.hid hr2; clear hr2
          go_wp2
          go_roundw
          case rel => exact ⟨k + 1, by omega, by go_num, HR2.out.congr (fun j hj => by
            have := HMK.out
            have : j < l := by omega
            simp [this]), hx2⟩
          case measure => simp [intOf]; omega
    · go_wp2
      go_ret
      have HRR := HR.out.congr (g := fun j => .int .i64 (ix (colS xss m) j)) (fun j hj => by rw [ix_colS hj, List.take_of_length_le (by rw [colOf_length]; omega)])
      exact ⟨_, rfl, Own.of_rowIs HRR (colS_length _ _) (fun j hj => rfl) (Nat.le_refl _) HRR.lt (by omega), hx⟩
end Go.Proofs.Ytodnkahnbidgaaa
