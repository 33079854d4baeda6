/- PossibleCounts, the spec's and the program's. -/
import Derived.Test.YtabfnpndfknjaaaNoiseOf
import Derived.Test.YtabfnpndfknjaaaApp
import Derived.Test.YtabfnpndfknjaaaMoments
import Derived.Deep.RegionHeld3
namespace Go.Proofs.Ytabfnpndfknjaaa
open Go.RowKit

def hasI (xs : List Int) (n : Int) : Bool := xs.any fun x => decide (x = n)
theorem hasI_of {xs : List Int} {n : Int} {j : Nat} (hj : j < xs.length) (h : ix xs j = n) : hasI xs n = true := by
  unfold hasI; rw [List.any_eq_true]; exact ⟨_, ix_mem hj, by simp [h]⟩
theorem hasI_not {xs : List Int} {n : Int} (h : ∀ j, j < xs.length → ix xs j ≠ n) : hasI xs n = false := by
  apply Bool.eq_false_iff.2
  intro e
  obtain ⟨x, hx, hn⟩ := List.any_eq_true.1 e
  obtain ⟨j, hj, rfl⟩ := List.getElem_of_mem hx
  exact h j hj (by rw [ix_eq hj]; simpa using hn)
/-- does a count become the perturbed one for some key -/
def possP (xss : List (List Int)) (seen c : Int) : Bool := hasI (rowAt xss (ntIdx xss c)) (seen - c)
/-- of the first k counts from lo on, those that can -/
def possTo (xss : List (List Int)) (seen lo : Int) (k : Nat) : List Int := ((List.range k).map fun (i : Nat) => lo + (i : Int)).filter (possP xss seen)
theorem possTo_zero (xss : List (List Int)) (seen lo : Int) : possTo xss seen lo 0 = [] := by simp [possTo]
theorem possTo_yes {xss : List (List Int)} {seen lo : Int} {k : Nat} (h : possP xss seen (lo + k) = true) : possTo xss seen lo (k + 1) = possTo xss seen lo k ++ [lo + k] := by
  simp [possTo, List.range_succ, List.filter_append, h]
theorem possTo_no {xss : List (List Int)} {seen lo : Int} {k : Nat} (h : possP xss seen (lo + k) = false) : possTo xss seen lo (k + 1) = possTo xss seen lo k := by
  simp [possTo, List.range_succ, List.filter_append, h]
theorem possTo_length (xss : List (List Int)) (seen lo : Int) (k : Nat) : (possTo xss seen lo k).length ≤ k := by
  have := List.length_filter_le (possP xss seen) ((List.range k).map fun (i : Nat) => lo + (i : Int))
  simpa [possTo] using this
noncomputable def possB (xss : List (List Int)) (seen : Int) : Bool := ntB xss && (decide (0 ≤ seen) && decide (seen ≤ 1000000))
def possLo (seen : Int) : Int := imax (seen - 5) 0
def possHi (seen : Int) : Int := imin (seen + 5) 1000000
def poss (xss : List (List Int)) (seen : Int) : List Int := possTo xss seen (possLo seen) (possHi seen + 1 - possLo seen).toNat
noncomputable def possV (xss : List (List Int)) (seen : Int) : List Int := if possB xss seen = true then poss xss seen else []

set_option maxHeartbeats 400000 in
theorem l1Has_c (v : Value) (xs : List Int) (n : Int) (w : World) (h : Ints w v xs) : Calls Try.prog 57 #[v, .int .i64 n] w fun e w' => e = .returned (.bool (hasI xs n)) ∧ w' = w := by
  obtain ⟨ao, cap, rfl, h1, h2, h3⟩ := h
  have G := Lib.hid h3; clear h3
  go_enter Try.func57, Try.ntmps57
  go_wp2
  go_loop [9] (fun i => ∃ k : Nat, k ≤ xs.length ∧ i = .int .i64 k ∧ ∀ j, j < k → ix xs j ≠ n) (fun i => xs.length - (intOf i).toNat)
  case atStart => exact ⟨0, Nat.zero_le _, rfl, fun j hj => by omega⟩
  case round =>
    obtain ⟨k, hk, rfl, hj⟩ := hrel
    have HJ := Lib.hid hj; clear hj
    by_cases hlt : k < xs.length
    · obtain ⟨b, o, rfl, hc⟩ := G.out k hlt
      by_cases he : ix xs k = n
      · go_wp2
        go_ret
        exact ⟨ret_bool (hasI_of hlt he).symm, rfl⟩
      · have HE := Lib.hid he
        go_wp2
        go_round
        case rel => exact ⟨k + 1, by omega, by go_num, fun j hj => by
          by_cases e : j = k
          · subst e; exact HE.out
          · exact HJ.out j (by omega)⟩
        case measure => simp [intOf]; omega
    · go_wp2
      go_ret
      exact ⟨ret_bool (hasI_not (fun j hj => HJ.out j (by omega))).symm, rfl⟩
theorem l1Most_b (r a b : Int) (w : World) (hr : imax a b = r) : Calls Try.prog 55 #[.int .i64 a, .int .i64 b] w fun e w' => e = .returned (.int .i64 r) ∧ w' = w := by
  subst hr; exact l1Most_c a b w

set_option maxHeartbeats 1600000 in
theorem specPoss_c (v : Value) (xss : List (List Int)) (seen : Int) (w : World) (h : Grid w v xss) :
    Calls Try.prog 24 #[.agg #[v], .int .i64 seen] w (RetInts (fun v' => .tuple #[v', .bool (possB xss seen)]) w (possV xss seen)) := by
  have H := Lib.hid h
  obtain ⟨ao, cap, rfl, g1, g2, g3⟩ := h
  clear g3
  have u0 := (Ext.refl w).alloc (.cells #[.slice ao xss.length cap] 46)
  have b0 := Box.new w 46 #[.slice ao xss.length cap] rfl
  cases hb : ntB xss
  · have hB : possB xss seen = false := by simp [possB, hb]
    have hV : possV xss seen = [] := by simp [possV, hB]
    rw [hV, hB]; clear hV hB
    have HB := Lib.hid hb; clear hb
    go_enter Try.func24, Try.ntmps24
    go_wp2_with fail
    refine (yGood_b false _ xss _ HB.out (H.out.ext u0)).mono ?_
    rintro e w1 ⟨rfl, u1⟩
    go_wp2
    go_ret2
    exact ⟨_, rfl, Own.nil, u0.trans u1⟩
  cases hk : (decide ((0 : Int) ≤ seen) && decide (seen ≤ 1000000))
  · have hB : possB xss seen = false := by simp only [possB, hb, hk]; rfl
    have hV : possV xss seen = [] := by simp [possV, hB]
    rw [hV, hB]; clear hV hB
    have HB := Lib.hid hb; clear hb
    have HK := Lib.hid hk; clear hk
    go_enter Try.func24, Try.ntmps24
    go_wp2_with fail
    refine (yGood_b true _ xss _ HB.out (H.out.ext u0)).mono ?_
    rintro e w1 ⟨rfl, u1⟩
    go_wp2_with fail
    refine (l1In_b false seen 0 1000000 _ HK.out).mono ?_
    rintro e w' ⟨rfl, rfl⟩
    go_wp2
    go_ret2
    exact ⟨_, rfl, Own.nil, u0.trans u1⟩
  have hs : 0 ≤ seen ∧ seen ≤ 1000000 := by simpa using hk
  have HK := Lib.hid hk; clear hk
  have hB : possB xss seen = true := by simp only [possB, hb]; simp; omega
  have hV : possV xss seen = poss xss seen := by simp [possV, hB]
  rw [hV, hB]; clear hV hB
  have HB := Lib.hid hb; clear hb
  obtain ⟨lo, hlo⟩ : ∃ lo, possLo seen = lo := ⟨_, rfl⟩
  obtain ⟨hi, hhi⟩ : ∃ hi, possHi seen = hi := ⟨_, rfl⟩
  have hl1 : 0 ≤ lo ∧ lo ≤ seen ∧ seen - 5 ≤ lo := by rw [← hlo]; unfold possLo imax; omega
  have hh1 : seen ≤ hi ∧ hi ≤ 1000000 ∧ hi ≤ seen + 5 := by rw [← hhi]; unfold possHi imin; omega
  have HLO : Hid (imax (seen - 5) 0 = lo) := Lib.hid hlo
  have HHI : Hid (imin (seen + 5) 1000000 = hi) := Lib.hid hhi
  have HE : Hid (poss xss seen = possTo xss seen lo (hi + 1 - lo).toNat) := Lib.hid (by unfold poss; rw [hlo, hhi])
  clear hlo hhi
  go_enter Try.func24, Try.ntmps24
  go_wp2_with fail
  refine (yGood_b true _ xss _ HB.out (H.out.ext u0)).mono ?_
  rintro e w1 ⟨rfl, u1⟩
  go_wp2_with fail
  refine (l1In_b true seen 0 1000000 _ HK.out).mono ?_
  rintro e w1 ⟨rfl, rfl⟩
  go_wp2_with fail
  refine (l1Most_b lo (seen - 5) 0 _ HLO.out).mono ?_
  rintro e w1 ⟨rfl, rfl⟩
  have b1 := b0.ext u1
  have x1 := u0.trans u1
  have hsz := x1.size
  have hsz1 := u1.size
  simp at hsz1
  go_wp2
  go_loopw [6, 7] (fun r i wr => ∃ k : Nat, lo + k ≤ hi + 1 ∧ i = .int .i64 (lo + k) ∧ IRow (w.heap.size + 1) wr r (possTo xss seen lo k) ∧ Box wr w.heap.size 46 #[.slice ao xss.length cap] ∧ Ext w wr) (fun _ i _ => (hi + 1 - intOf i).toNat)
  case atStart => exact ⟨0, by omega, by simp, by rw [possTo_zero]; exact IRow.nil, b1, x1⟩
  case round =>
    obtain ⟨k, hk, rfl, hr, hb, hx⟩ := hrel
    have HR := Lib.hid hr; clear hr
    have cb := hb.cell 0 (by simp)
    obtain ⟨c, hc⟩ : ∃ c, lo + (k : Int) = c := ⟨_, rfl⟩
    by_cases hlt : c ≤ hi
    · rw [hc]
      have hkn : k = (c - lo).toNat := by omega
      have HC := Lib.hid hc; clear hc
      have HKN := Lib.hid hkn; clear hkn
      have HX := Lib.hid hx
      have hlen := possTo_length xss seen lo k
      obtain ⟨n, hn⟩ : ∃ n, (possTo xss seen lo k).length = n := ⟨_, rfl⟩
      have hn11 : n ≤ 11 := by have := HC.out; omega
      have hc0 : 0 ≤ c ∧ c ≤ 1000000 := by have := HC.out; omega
      have hszx := hx.size
      have HN := Lib.hid hn; clear hn hlen
      go_wp2_with fail
      refine (l1Least_b hi (seen + 5) 1000000 _ HHI.out).mono ?_
      rintro e w2 ⟨rfl, rfl⟩
      go_wp2_with fail
      refine (yRow_c _ xss c _ (H.out.ext HX.out) (ntB_true.1 HB.out) (by omega)).mono ?_
      rintro e w2 ⟨ar, cr, rfl, q1, q2, q3, u2⟩
      have Q3 : Hid (Ints w2 (.slice ar (rowAt xss (ntIdx xss c)).length cr) (rowAt xss (ntIdx xss c))) := Lib.hid ⟨ar, cr, rfl, q1, q2, q3⟩
      clear q3
      go_wp2_with fail
      refine (l1Has_c _ (rowAt xss (ntIdx xss c)) (seen - c) _ Q3.out).mono ?_
      rintro e w2 ⟨rfl, rfl⟩
      have hr2 := HR.out.ext u2
      have HR2 := Lib.hid hr2
      have hb2 := hb.ext u2
      have hx2 := hx.trans u2
      have hszu := u2.size
      cases hp : hasI (rowAt xss (ntIdx xss c)) (seen - c)
      · have hno := possTo_no (xss := xss) (seen := seen) (lo := lo) (k := k) (by rw [HC.out]; exact hp)
        have HNO := Lib.hid hno; clear hno hp
        go_wp2
        go_roundw
        case rel => exact ⟨k + 1, by have := HC.out; omega, by have := HC.out; congr 1; omega, by rw [HNO.out]; exact HR2.out, hb2, hx2⟩
        case measure => simp [intOf]; omega
      · have hyes := possTo_yes (xss := xss) (seen := seen) (lo := lo) (k := k) (by rw [HC.out]; exact hp)
        rw [HC.out] at hyes
        have HYES := Lib.hid hyes; clear hyes hp
        have hown := hr2
        unfold IRow at hown
        rw [HN.out] at hown
        have HOWN := Lib.hid hown; clear hown hr2
        go_wp2_with (at_builtin; go_loud (refine app1 _ rfl _ _ 43 3 rfl (.int .i64 0) 8 Try.underlying43 info_int rfl (w.heap.size + 1) _ n _ rfl (HOWN.out.kept (row := none) ⟨((Ext.refl _).alloc _).os, ((Ext.refl _).alloc _).tape, ((Ext.refl _).alloc _).output, ((Ext.refl _).alloc _).size, fun k hk _ => ((Ext.refl _).alloc _).block hk⟩ (by cases (Value.ownBlock _) <;> simp)) w2.heap.size 1 3 (.int .i64 c) rfl (Box.new _ _ _ rfl) rfl (by omega) (by omega) (by simp; omega) ?_))
        intro g cp w3 hown3 hgrow hat hlt3
        have h3 := HR2.out.ext ((Ext.refl _).alloc (.cells #[.int .i64 c] 3))
        have hb3 := h3.box hgrow (by omega) (hb2.alloc _)
        have hx3 := h3.grew (hx2.alloc _) (by omega) hgrow
        have HO3 := Lib.hid hown3; clear hown3
        have HX3 := Lib.hid hx3; clear hx3
        clear hgrow
        go_wp2
        go_roundw
        case rel => exact ⟨k + 1, by have := HC.out; omega, by have := HC.out; congr 1; omega, by rw [HYES.out]; exact IRow.push (by rw [HN.out]; exact HO3.out), hb3, HX3.out⟩
        case measure => simp [intOf]; omega
    · rw [hc]
      have hkk : k = (hi + 1 - lo).toNat := by omega
      have HKK := Lib.hid hkk; clear hkk
      clear hc
      go_wp2_with fail
      refine (l1Least_b hi (seen + 5) 1000000 _ HHI.out).mono ?_
      rintro e w2 ⟨rfl, rfl⟩
      have ho := (HR.out.own (Nat.le_refl _)).mono (lo' := w.heap.size) (by omega) (Nat.le_refl _)
      have HO := Lib.hid ho; clear ho
      go_wp2
      go_ret2
      exact ⟨_, rfl, by rw [HE.out, ← HKK.out]; exact HO.out, hx⟩
set_option maxHeartbeats 1600000 in
theorem implPoss_c (v : Value) (xss : List (List Int)) (seen : Int) (w : World) (h : Grid w v xss) :
    Calls Try.prog 26 #[.agg #[v], .int .i64 seen] w (RetInts (fun v' => .tuple #[v', .bool (possB xss seen)]) w (possV xss seen)) := by
  have H := Lib.hid h
  obtain ⟨ao, cap, rfl, g1, g2, g3⟩ := h
  clear g3
  have u0 := (Ext.refl w).alloc (.cells #[.slice ao xss.length cap] 46)
  have b0 := Box.new w 46 #[.slice ao xss.length cap] rfl
  cases hb : ntB xss
  · have hB : possB xss seen = false := by simp [possB, hb]
    have hV : possV xss seen = [] := by simp [possV, hB]
    rw [hV, hB]; clear hV hB
    have HB := Lib.hid hb; clear hb
    go_enter Try.func26, Try.ntmps26
    go_wp2_with fail
    refine (implIsNoiseTable_b false _ xss _ HB.out (H.out.ext u0)).mono ?_
    rintro e w1 ⟨rfl, u1⟩
    go_wp2
    go_ret2
    exact ⟨_, rfl, Own.nil, u0.trans u1⟩
  by_cases hs0 : seen < 0
  · have hB : possB xss seen = false := by simp only [possB, hb]; simp; omega
    have hV : possV xss seen = [] := by simp [possV, hB]
    rw [hV, hB]; clear hV hB
    have HB := Lib.hid hb; clear hb
    go_enter Try.func26, Try.ntmps26
    go_wp2_with fail
    refine (implIsNoiseTable_b true _ xss _ HB.out (H.out.ext u0)).mono ?_
    rintro e w1 ⟨rfl, u1⟩
    go_wp2
    go_ret2
    exact ⟨_, rfl, Own.nil, u0.trans u1⟩
  by_cases hs1 : 1000000 < seen
  · have hB : possB xss seen = false := by simp only [possB, hb]; simp; omega
    have hV : possV xss seen = [] := by simp [possV, hB]
    rw [hV, hB]; clear hV hB
    have HB := Lib.hid hb; clear hb
    go_enter Try.func26, Try.ntmps26
    go_wp2_with fail
    refine (implIsNoiseTable_b true _ xss _ HB.out (H.out.ext u0)).mono ?_
    rintro e w1 ⟨rfl, u1⟩
    go_wp2
    go_ret2
    exact ⟨_, rfl, Own.nil, u0.trans u1⟩
  have hs : 0 ≤ seen ∧ seen ≤ 1000000 := by omega
  clear hs0 hs1
  have hB : possB xss seen = true := by simp only [possB, hb]; simp; omega
  have hV : possV xss seen = poss xss seen := by simp [possV, hB]
  rw [hV, hB]; clear hV hB
  have HB := Lib.hid hb; clear hb
  obtain ⟨lo, hlo⟩ : ∃ lo, possLo seen = lo := ⟨_, rfl⟩
  obtain ⟨hi, hhi⟩ : ∃ hi, possHi seen = hi := ⟨_, rfl⟩
  have hl1 : 0 ≤ lo ∧ lo ≤ seen ∧ seen - 5 ≤ lo := by rw [← hlo]; unfold possLo imax; omega
  have hh1 : seen ≤ hi ∧ hi ≤ 1000000 ∧ hi ≤ seen + 5 := by rw [← hhi]; unfold possHi imin; omega
  have HLO : Hid (imax (seen - 5) 0 = lo) := Lib.hid hlo
  have HHI : Hid (imin (seen + 5) 1000000 = hi) := Lib.hid hhi
  have HE : Hid (poss xss seen = possTo xss seen lo (hi + 1 - lo).toNat) := Lib.hid (by unfold poss; rw [hlo, hhi])
  clear hlo hhi
  have hmax : (if 5 < seen then seen - 5 else 0) = lo := by have := HLO.out; unfold imax at this; split <;> omega
  have hmin2 : (if seen < 999995 then seen + 5 else 1000000) = hi := by have := HHI.out; unfold imin at this; split <;> omega
  have hd1 : decide (seen < 0) = false := by simp; omega
  have hd2 : decide (1000000 < seen) = false := by simp; omega
  have hmin : (if seen + 5 < 1000000 then seen + 5 else 1000000) = hi := by have := HHI.out; unfold imin at this; split <;> omega
  go_enter Try.func26, Try.ntmps26
  go_wp2_with fail
  refine (implIsNoiseTable_b true _ xss _ HB.out (H.out.ext u0)).mono ?_
  rintro e w1 ⟨rfl, u1⟩
  have b1 := b0.ext u1
  have x1 := u0.trans u1
  have hsz := x1.size
  have hsz1 := u1.size
  simp at hsz1
  go_wp2
  go_loopw [6, 7] (fun r i wr => ∃ k : Nat, lo + k ≤ hi + 1 ∧ i = .int .i64 (lo + k) ∧ IRow (w.heap.size + 1) wr r (possTo xss seen lo k) ∧ Box wr w.heap.size 46 #[.slice ao xss.length cap] ∧ Ext w wr) (fun _ i _ => (hi + 1 - intOf i).toNat)
  case atStart => exact ⟨0, by omega, by simp, by rw [possTo_zero]; exact IRow.nil, b1, x1⟩
  case round =>
    obtain ⟨k, hk, rfl, hr, hb, hx⟩ := hrel
    have HR := Lib.hid hr; clear hr
    have cb := hb.cell 0 (by simp)
    obtain ⟨c, hc⟩ : ∃ c, lo + (k : Int) = c := ⟨_, rfl⟩
    by_cases hlt : c ≤ hi
    · rw [hc]
      have HC := Lib.hid hc; clear hc
      have HX := Lib.hid hx
      have hlen := possTo_length xss seen lo k
      obtain ⟨n, hn⟩ : ∃ n, (possTo xss seen lo k).length = n := ⟨_, rfl⟩
      have hn11 : n ≤ 11 := by have := HC.out; omega
      have hc0 : 0 ≤ c ∧ c ≤ 1000000 := by have := HC.out; omega
      have hszx := hx.size
      have HN := Lib.hid hn; clear hn hlen
      have r16 := Row16.of_nt (count := c) (ntB_true.1 HB.out)
      have R16 := Lib.hid r16; clear r16
      go_wp2_with fail
      refine (rowFor_c _ xss c _ (H.out.ext HX.out) (ntB_true.1 HB.out) (by omega)).mono ?_
      rintro e w2 ⟨ar, cr, rfl, q1, q2, q3, u2⟩
      have G := Lib.hid q3; clear q3
      have hr2 := HR.out.ext u2
      have HR2 := Lib.hid hr2; clear hr2
      have hb2 := hb.ext u2
      have hx2 := hx.trans u2
      have hszu := u2.size
      obtain ⟨wo, rfl⟩ : ∃ wo : World, wo = w2 := ⟨_, rfl⟩
      go_wp2
      go_loop [6, 35] (fun r i => ∃ j : Nat, j ≤ (rowAt xss (ntIdx xss c)).length ∧ i = .int .i64 j ∧ (∀ j', j' < j → ix (rowAt xss (ntIdx xss c)) j' ≠ seen - c) ∧ IRow (w.heap.size + 1) wo r (possTo xss seen lo k)) (fun _ i => (rowAt xss (ntIdx xss c)).length - (intOf i).toNat)
      case atStart => exact ⟨0, Nat.zero_le _, rfl, fun j hj => by omega, HR2.out⟩
      clear HR2
      case round =>
        obtain ⟨j, hj, rfl, hno, hr2⟩ := hrel
        have HR2 := Lib.hid hr2; clear hr2
        have HNO := Lib.hid hno; clear hno
        by_cases hjt : j < (rowAt xss (ntIdx xss c)).length
        · obtain ⟨br, or, rfl, hcl⟩ := G.out j hjt
          have hbd := R16.out.2 _ (ix_mem hjt)
          by_cases he : c + ix (rowAt xss (ntIdx xss c)) j = seen
          · have hp : possP xss seen c = true := hasI_of hjt (by omega)
            have hyes := possTo_yes (xss := xss) (seen := seen) (lo := lo) (k := k) (by rw [HC.out]; exact hp)
            rw [HC.out] at hyes
            have HYES := Lib.hid hyes; clear hyes hp
            have hown := HR2.out
            unfold IRow at hown
            rw [HN.out] at hown
            have HOWN := Lib.hid hown; clear hown
            go_wp2_with (at_builtin; go_loud (refine app1 _ rfl _ _ 43 3 rfl (.int .i64 0) 8 Try.underlying43 info_int rfl (w.heap.size + 1) _ n _ rfl (HOWN.out.kept (row := none) ⟨((Ext.refl _).alloc _).os, ((Ext.refl _).alloc _).tape, ((Ext.refl _).alloc _).output, ((Ext.refl _).alloc _).size, fun k hk _ => ((Ext.refl _).alloc _).block hk⟩ (by cases (Value.ownBlock _) <;> simp)) wo.heap.size 1 3 (.int .i64 c) rfl (Box.new _ _ _ rfl) rfl (by omega) (by omega) (by simp; omega) ?_))
            intro g cp w3 hown3 hgrow hat hlt3
            have h3 := HR2.out.ext ((Ext.refl _).alloc (.cells #[.int .i64 c] 3))
            have hb3 := h3.box hgrow (by omega) (hb2.alloc _)
            have hx3 := h3.grew (hx2.alloc _) (by omega) hgrow
            have HO3 := Lib.hid hown3; clear hown3
            have HX3 := Lib.hid hx3; clear hx3
            clear hgrow
            go_wp2
            go_roundw
            case rel => exact ⟨k + 1, by have := HC.out; omega, by have := HC.out; congr 1; omega, by rw [HYES.out]; exact IRow.push (by rw [HN.out]; exact HO3.out), hb3, HX3.out⟩
            case measure => simp [intOf]; omega
          · have HNE : Hid (ix (rowAt xss (ntIdx xss c)) j ≠ seen - c) := Lib.hid (by omega)
            go_wp2
            go_round
            case rel => exact ⟨j + 1, by omega, by go_num, fun j' hj' => by
              by_cases e : j' = j
              · subst e; exact HNE.out
              · exact HNO.out j' (by omega), HR2.out⟩
            case measure => simp [intOf]; omega
        · have hp : possP xss seen c = false := hasI_not (fun j' hj' => HNO.out j' (by omega))
          have hno := possTo_no (xss := xss) (seen := seen) (lo := lo) (k := k) (by rw [HC.out]; exact hp)
          have HN2 := Lib.hid hno; clear hno hp
          go_wp2
          go_roundw
          case rel => exact ⟨k + 1, by have := HC.out; omega, by have := HC.out; congr 1; omega, by rw [HN2.out]; exact HR2.out, hb2, hx2⟩
          case measure => simp [intOf]; omega
    · rw [hc]
      have hkk : k = (hi + 1 - lo).toNat := by omega
      have HKK := Lib.hid hkk; clear hkk
      clear hc
      have ho := (HR.out.own (Nat.le_refl _)).mono (lo' := w.heap.size) (by omega) (Nat.le_refl _)
      have HO := Lib.hid ho; clear ho
      go_wp2
      go_ret2
      exact ⟨_, rfl, by rw [HE.out, ← HKK.out]; exact HO.out, hx⟩
end Go.Proofs.Ytabfnpndfknjaaa
