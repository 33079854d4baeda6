/- SwapCandidates, the spec's and the program's. -/
import Derived.Test.YtkkoidoinbiikaaCan
import Derived.Test.YtkkoidoinbiikaaGrow
namespace Go.Proofs.Ytkkoidoinbiikaa
open Go.RowKit

def pairI (i j : Nat) : List Int := [(i : Int), (j : Int)]
theorem Own.pair {w : World} {b : Nat} {i j : Nat} (h : Box w b 3 #[.int .i64 i, .int .i64 j]) : Own b (b + 1) w (.slice (some ⟨b, 0, none⟩) 2 2) (pairI i j) :=
  ⟨_, 2, rfl, Nat.le_refl _, by omega, .inr ⟨b, 0, _, rfl, Nat.le_refl _, Nat.lt_succ_self _, h, fun k hk => by
    have hk2 : k < 2 := hk
    match k, hk2 with
    | 0, _ => rfl
    | 1, _ => rfl⟩⟩
/-- the pairs that begin with i, the second below k -/
def rowP (s : List Vr) (l : List Pe) (vars : List Int) (i k : Nat) : List (List Int) := ((List.range k).filter fun b => decide (i < b) && canB s (peAt l i) (peAt l b) vars).map (pairI i)
def candTo (s : List Vr) (l : List Pe) (vars : List Int) (i : Nat) : List (List Int) := (List.range i).flatMap fun a => rowP s l vars a l.length
def candL (s : List Vr) (l : List Pe) (vars : List Int) : List (List Int) := candTo s l vars l.length
section
variable {s : List Vr} {l : List Pe} {vars : List Int} {i k : Nat}
theorem rowP_start : rowP s l vars i (i + 1) = [] := by
  have : ((List.range (i + 1)).filter fun b => decide (i < b) && canB s (peAt l i) (peAt l b) vars) = [] := by
    rw [List.filter_eq_nil_iff]
    intro b hb
    have := List.mem_range.1 hb
    have : ¬ i < b := by omega
    simp [this]
  simp [rowP, this]
theorem rowP_yes (h : i < k) (hc : canB s (peAt l i) (peAt l k) vars = true) : rowP s l vars i (k + 1) = rowP s l vars i k ++ [pairI i k] := by
  simp [rowP, List.range_succ, List.filter_append, h, hc]
theorem rowP_no (hc : canB s (peAt l i) (peAt l k) vars = false) : rowP s l vars i (k + 1) = rowP s l vars i k := by
  simp [rowP, List.range_succ, List.filter_append, hc]
theorem candTo_succ : candTo s l vars (i + 1) = candTo s l vars i ++ rowP s l vars i l.length := by
  simp [candTo, List.range_succ, List.flatMap_append]
theorem rowP_len : (rowP s l vars i k).length ≤ k := by
  have h := List.length_filter_le (fun b => decide (i < b) && canB s (peAt l i) (peAt l b) vars) (List.range k)
  simpa [rowP] using h
theorem candTo_len : (candTo s l vars i).length ≤ i * l.length := by
  induction i with
  | zero => simp [candTo]
  | succ i ih =>
    rw [candTo_succ, List.length_append, Nat.succ_mul]
    have := rowP_len (s := s) (l := l) (vars := vars) (i := i) (k := l.length)
    omega
theorem cand_row {r : List Int} (h : r ∈ candTo s l vars i) : r.length = 2 := by
  simp only [candTo, rowP, List.mem_flatMap, List.mem_map] at h
  obtain ⟨a, _, b, _, rfl⟩ := h
  rfl
end
set_option maxRecDepth 100000 in
set_option maxHeartbeats 1600000 in
theorem swCandidates_c (v1 v2 v3 : Value) (s : List Vr) (l : List Pe) (vars : List Int) (w : World) (hin : inB s l vars = true) (h1 : Vrs w v1 s) (h2 : Pes w v2 l) (h3 : Ints w v3 vars) :
    Calls Try.prog 85 #[v1, v2, v3] w (RetGrid (fun v' => v') w (candL s l vars)) := by
  have H1 := Lib.hid h1; clear h1
  have H2 := Lib.hid h2
  have H3 := Lib.hid h3; clear h3
  have hl := (inB_true.1 hin).2.1
  have HKO : Hid (∀ k, k < l.length → KeyOk s (peAt l k).vals vars) := Lib.hid (fun k hk => keyOk_of hin hk)
  clear hin
  obtain ⟨a2, c2, rfl, e1, e2, g2⟩ := h2
  have G2 := Lib.hid g2; clear g2
  go_enter Try.func85, Try.ntmps85
  go_wp2
  go_loopw [7, 12] (fun r i wr => ∃ (n : Nat) (rvs : List Value), n ≤ l.length ∧ i = .int .i64 n ∧ GRow w.heap.size wr.heap.size wr r rvs (candTo s l vars n) ∧ Ext w wr) (fun _ i _ => l.length - (intOf i).toNat)
  case atStart => exact ⟨0, [], Nat.zero_le _, rfl, GRow.nil, Ext.refl w⟩
  case round =>
    obtain ⟨i, rvs, hi, rfl, hg, hx⟩ := hrel
    obtain ⟨wo, rfl⟩ : ∃ wo : World, wo = wr := ⟨_, rfl⟩
    have HG := Lib.hid hg; clear hg
    by_cases hi1 : i < l.length
    · go_wp2
      go_loopw [7, 9] (fun r j wr => ∃ (k : Nat) (rvs : List Value), k ≤ l.length ∧ i < k ∧ j = .int .i64 k ∧ GRow w.heap.size wr.heap.size wr r rvs (candTo s l vars i ++ rowP s l vars i k) ∧ Ext w wr) (fun _ j _ => l.length - (intOf j).toNat)
      case atStart => exact ⟨i + 1, rvs, by omega, by omega, by go_num, by rw [rowP_start, List.append_nil]; exact HG.out, hx⟩
      case round =>
        clear hx HG
        obtain ⟨k, rvs, hk, hik, rfl, hg, hx⟩ := hrel
        obtain ⟨wi, rfl⟩ : ∃ wi : World, wi = wr := ⟨_, rfl⟩
        have HG := Lib.hid hg; clear hg
        by_cases hk1 : k < l.length
        · have HKI := Lib.hid (HKO.out i hi1)
          have HKK := Lib.hid (HKO.out k hk1)
          have hcl : (candTo s l vars i).length ≤ 1600 := by
            have h1 := candTo_len (s := s) (l := l) (vars := vars) (i := i)
            have h2 : i * l.length ≤ 40 * 40 := Nat.mul_le_mul (by omega) hl
            omega
          have hrl := rowP_len (s := s) (l := l) (vars := vars) (i := i) (k := k)
          cases hc : canB s (peAt l i) (peAt l k) vars
          · have HC := Lib.hid hc
            have HRN := Lib.hid (rowP_no hc)
            clear hc hcl hrl
            go_wp2_with fail
            refine (swCan_b false _ _ _ s l vars i k _ HC.out (H1.out.ext hx) (H2.out.ext hx) (H3.out.ext hx) hi1 hk1 HKI.out HKK.out).mono ?_
            rintro e w1 ⟨rfl, u1⟩
            have u0 := u1
            go_wp2
            go_roundw
            case rel => exact ⟨k + 1, rvs, by omega, by omega, by go_num, by rw [HRN.out]; exact (HG.out.ext u0).mono u0.size, hx.trans u0⟩
            case measure => simp [intOf]; omega
          · have HC := Lib.hid hc
            have HRY := Lib.hid (rowP_yes hik hc)
            clear hc
            obtain ⟨L, hL⟩ : ∃ L, candTo s l vars i ++ rowP s l vars i k = L := ⟨_, rfl⟩
            have HRL : Hid (candTo s l vars i ++ rowP s l vars i (k + 1) = L ++ [pairI i k]) := Lib.hid (by rw [HRY.out, ← List.append_assoc, hL])
            have hLl : L.length ≤ 1640 := by rw [← hL, List.length_append]; omega
            rw [hL] at HG
            clear hL hcl hrl HRY
            obtain ⟨n, hn⟩ : ∃ n, L.length = n := ⟨_, rfl⟩
            rw [hn] at hLl
            have HN := Lib.hid hn; clear hn
            go_wp2_with fail
            refine (swCan_b true _ _ _ s l vars i k _ HC.out (H1.out.ext hx) (H2.out.ext hx) (H3.out.ext hx) hi1 hk1 HKI.out HKK.out).mono ?_
            rintro e w1 ⟨rfl, u1⟩
            have u0 := u1
            have hs := (hx.trans u0).size
            have gg := (HG.out.ext u0).mono u0.size
            have ub := (Ext.refl w1).alloc (.cells #[.int .i64 i, .int .i64 k] 3)
            have uc := ub.alloc (.cells #[.slice (some ⟨w1.heap.size, 0, none⟩) 2 2] 24)
            have hz1 : (w1.alloc (.cells #[.int .i64 i, .int .i64 k] 3)).heap.size = w1.heap.size + 1 := by simp
            have bp := (Box.new w1 3 #[.int .i64 i, .int .i64 k] rfl).alloc (.cells #[.slice (some ⟨w1.heap.size, 0, none⟩) 2 2] 24)
            have hown := (gg.ext uc).own
            rw [HN.out] at hown
            have HOWN := Lib.hid hown; clear hown
            have HBP := Lib.hid bp; clear bp
            have UC := Lib.hid uc; clear uc ub
            have HGG := Lib.hid gg; clear gg
            have HXX := Lib.hid (hx.trans u0)
            go_wp2_with (at_builtin; go_loud (refine app1 _ rfl _ _ 38 24 rfl (.slice none 0 0) 24 Try.underlying38 info_ints rfl w.heap.size _ n rvs rfl HOWN.out (w1.heap.size + 1) 1 24 (.slice (some ⟨w1.heap.size, 0, none⟩) 2 2) rfl (Box.new _ _ _ hz1.symm) rfl (by omega) (by omega) (by simp; omega) ?_))
            intro g cp w3 hown3 hgrow hat hlt3
            have hsg := hgrow.size
            have hsg2 : w1.heap.size + 2 ≤ w3.heap.size := by simp at hsg; omega
            have gn := (HGG.out.ext UC.out).push (hi' := w3.heap.size) (x := .slice (some ⟨w1.heap.size, 0, none⟩) 2 2) (r := pairI i k) hs ((Own.pair HBP.out).mono (Nat.le_refl _) (by omega)) (by omega) hgrow (by rw [HN.out]; exact hown3)
            have hx3 := (HGG.out.ext UC.out).grew (HXX.out.trans UC.out) (Nat.le_refl _) hgrow
            have GN := Lib.hid gn; clear gn
            have HX3 := Lib.hid hx3; clear hx3
            clear hgrow hown3 hsg
            go_wp2
            go_roundw
            case rel => exact ⟨k + 1, _, by omega, by omega, by go_num, by rw [HRL.out]; exact GN.out, HX3.out⟩
            case measure => simp [intOf]; omega
        · have hkl : k = l.length := by omega
          have HCS : Hid (candTo s l vars (i + 1) = candTo s l vars i ++ rowP s l vars i k) := Lib.hid (by rw [hkl]; exact candTo_succ)
          clear hkl
          go_wp2
          go_roundw
          case rel => exact ⟨i + 1, rvs, by omega, by go_num, by rw [HCS.out]; exact HG.out, hx⟩
          case measure => simp [intOf]; omega
    · have hil : i = l.length := by omega
      have HIL := Lib.hid hil; clear hil
      go_wp2
      go_ret
      exact ⟨_, rvs, rfl, by unfold candL; rw [← HIL.out]; exact HG.out.ownG (Nat.le_refl _) (Nat.le_refl _), hx⟩
set_option maxRecDepth 100000 in
set_option maxHeartbeats 1600000 in
theorem swapCandidates_c (v1 v2 v3 : Value) (s : List Vr) (l : List Pe) (vars : List Int) (w : World) (hin : inB s l vars = true) (h1 : Vrs w v1 s) (h2 : Pes w v2 l) (h3 : Ints w v3 vars) :
    Calls Try.prog 86 #[v1, v2, v3] w (RetGrid (fun v' => v') w (candL s l vars)) := by
  have H1 := Lib.hid h1; clear h1
  have H2 := Lib.hid h2
  have H3 := Lib.hid h3; clear h3
  have hl := (inB_true.1 hin).2.1
  have HKO : Hid (∀ k, k < l.length → KeyOk s (peAt l k).vals vars) := Lib.hid (fun k hk => keyOk_of hin hk)
  clear hin
  obtain ⟨a2, c2, rfl, e1, e2, g2⟩ := h2
  have G2 := Lib.hid g2; clear g2
  go_enter Try.func86, Try.ntmps86
  go_wp2
  go_loopw [7, 12] (fun r i wr => ∃ (n : Nat) (rvs : List Value), n ≤ l.length ∧ i = .int .i64 n ∧ GRow w.heap.size wr.heap.size wr r rvs (candTo s l vars n) ∧ Ext w wr) (fun _ i _ => l.length - (intOf i).toNat)
  case atStart => exact ⟨0, [], Nat.zero_le _, rfl, GRow.nil, Ext.refl w⟩
  case round =>
    obtain ⟨i, rvs, hi, rfl, hg, hx⟩ := hrel
    obtain ⟨wo, rfl⟩ : ∃ wo : World, wo = wr := ⟨_, rfl⟩
    have HG := Lib.hid hg; clear hg
    by_cases hi1 : i < l.length
    · go_wp2
      go_loopw [7, 9] (fun r j wr => ∃ (k : Nat) (rvs : List Value), k ≤ l.length ∧ i < k ∧ j = .int .i64 k ∧ GRow w.heap.size wr.heap.size wr r rvs (candTo s l vars i ++ rowP s l vars i k) ∧ Ext w wr) (fun _ j _ => l.length - (intOf j).toNat)
      case atStart => exact ⟨i + 1, rvs, by omega, by omega, by go_num, by rw [rowP_start, List.append_nil]; exact HG.out, hx⟩
      case round =>
        clear hx HG
        obtain ⟨k, rvs, hk, hik, rfl, hg, hx⟩ := hrel
        obtain ⟨wi, rfl⟩ : ∃ wi : World, wi = wr := ⟨_, rfl⟩
        have HG := Lib.hid hg; clear hg
        by_cases hk1 : k < l.length
        · have HKI := Lib.hid (HKO.out i hi1)
          have HKK := Lib.hid (HKO.out k hk1)
          have hcl : (candTo s l vars i).length ≤ 1600 := by
            have h1 := candTo_len (s := s) (l := l) (vars := vars) (i := i)
            have h2 : i * l.length ≤ 40 * 40 := Nat.mul_le_mul (by omega) hl
            omega
          have hrl := rowP_len (s := s) (l := l) (vars := vars) (i := i) (k := k)
          cases hc : canB s (peAt l i) (peAt l k) vars
          · have HC := Lib.hid hc
            have HRN := Lib.hid (rowP_no hc)
            clear hc hcl hrl
            obtain ⟨b1, o1, ar1, cr1, rfl, c0, c1, c2, p1, p2, p3⟩ := (G2.out.ext hx).at_ hi1
            obtain ⟨b2, o2, ar2, cr2, e', d0, d1, d2, q1, q2, q3⟩ := (G2.out.ext hx).at_ hk1
            simp only [Option.some.injEq, Addr.mk.injEq, and_true] at e'
            obtain ⟨rfl, rfl⟩ := e'
            have HP : Hid (PeR wi (.agg #[.int .i64 (peAt l i).area, .int .i64 (peAt l i).house, .slice ar1 (peAt l i).vals.length cr1]) (peAt l i)) := Lib.hid ⟨_, rfl, ar1, cr1, rfl, p1, p2, p3⟩
            have HQ : Hid (PeR wi (.agg #[.int .i64 (peAt l k).area, .int .i64 (peAt l k).house, .slice ar2 (peAt l k).vals.length cr2]) (peAt l k)) := Lib.hid ⟨_, rfl, ar2, cr2, rfl, q1, q2, q3⟩
            clear p3 q3
            obtain ⟨P, hP⟩ : ∃ P, peAt l i = P := ⟨_, rfl⟩
            obtain ⟨Q, hQ⟩ : ∃ P, peAt l k = P := ⟨_, rfl⟩
            rw [hP] at HP HKI HC c0 c1 c2 p1
            rw [hQ] at HQ HKK HC d0 d1 d2 q1
            obtain ⟨A, hA⟩ : ∃ A, P.area = A := ⟨_, rfl⟩
            obtain ⟨A2, hA2⟩ : ∃ A, Q.area = A := ⟨_, rfl⟩
            obtain ⟨B, hB⟩ : ∃ A, P.house = A := ⟨_, rfl⟩
            obtain ⟨B2, hB2⟩ : ∃ A, Q.house = A := ⟨_, rfl⟩
            obtain ⟨n1, hn1⟩ : ∃ n, P.vals.length = n := ⟨_, rfl⟩
            obtain ⟨n2, hn2⟩ : ∃ n, Q.vals.length = n := ⟨_, rfl⟩
            rw [hA, hB, hn1] at HP
            rw [hA2, hB2, hn2] at HQ
            rw [hA] at c0
            rw [hB] at c1
            rw [hn1] at c2 p1
            rw [hA2] at d0
            rw [hB2] at d1
            rw [hn2] at d2 q1
            clear hA hB hn1 hA2 hB2 hn2 hP hQ
            have hii0 : (0 : Int) ≤ (i : Int) := by omega
            have hii1 : (i : Int) < (l.length : Int) := by omega
            have hkk0 : (0 : Int) ≤ (k : Int) := by omega
            have hkk1 : (k : Int) < (l.length : Int) := by omega
            go_wp2_with fail
            go_region_held3 (fun x => x.cell? ⟨b1, o1 + i * 3, none⟩ = some (.int .i64 A) ∧ x.cell? ⟨b1, o1 + i * 3 + 1, none⟩ = some (.int .i64 B) ∧ x.cell? ⟨b1, o1 + i * 3 + 2, none⟩ = some (.slice ar1 n1 cr1) ∧ x.cell? ⟨b1, o1 + k * 3, none⟩ = some (.int .i64 A2) ∧ x.cell? ⟨b1, o1 + k * 3 + 1, none⟩ = some (.int .i64 B2) ∧ x.cell? ⟨b1, o1 + k * 3 + 2, none⟩ = some (.slice ar2 n2 cr2))
              (first | exact ⟨Ext.cell u1 c0, Ext.cell u1 c1, Ext.cell u1 c2, Ext.cell u1 d0, Ext.cell u1 d1, Ext.cell u1 d2⟩ | go_keep)
              ((first | (go_at_call 80; refine (canSwap_b false _ _ _ _ s P Q vars _ HC.out (H1.out.ext (hx.trans (Ext.refl wi).drew)) (HP.out.ext (Ext.refl wi).drew) (HQ.out.ext (Ext.refl wi).drew) (H3.out.ext (hx.trans (Ext.refl wi).drew)) HKI.out HKK.out).mono ?_; rintro e w1 ⟨rfl, u1⟩)))
            have u0 := (Ext.refl wi).drew.trans u1
            go_wp2
            go_roundw
            case rel => exact ⟨k + 1, rvs, by omega, by omega, by go_num, by rw [HRN.out]; exact (HG.out.ext u0).mono u0.size, hx.trans u0⟩
            case measure => simp [intOf]; omega
          · have HC := Lib.hid hc
            have HRY := Lib.hid (rowP_yes hik hc)
            clear hc
            obtain ⟨L, hL⟩ : ∃ L, candTo s l vars i ++ rowP s l vars i k = L := ⟨_, rfl⟩
            have HRL : Hid (candTo s l vars i ++ rowP s l vars i (k + 1) = L ++ [pairI i k]) := Lib.hid (by rw [HRY.out, ← List.append_assoc, hL])
            have hLl : L.length ≤ 1640 := by rw [← hL, List.length_append]; omega
            rw [hL] at HG
            clear hL hcl hrl HRY
            obtain ⟨n, hn⟩ : ∃ n, L.length = n := ⟨_, rfl⟩
            rw [hn] at hLl
            have HN := Lib.hid hn; clear hn
            obtain ⟨b1, o1, ar1, cr1, rfl, c0, c1, c2, p1, p2, p3⟩ := (G2.out.ext hx).at_ hi1
            obtain ⟨b2, o2, ar2, cr2, e', d0, d1, d2, q1, q2, q3⟩ := (G2.out.ext hx).at_ hk1
            simp only [Option.some.injEq, Addr.mk.injEq, and_true] at e'
            obtain ⟨rfl, rfl⟩ := e'
            have HP : Hid (PeR wi (.agg #[.int .i64 (peAt l i).area, .int .i64 (peAt l i).house, .slice ar1 (peAt l i).vals.length cr1]) (peAt l i)) := Lib.hid ⟨_, rfl, ar1, cr1, rfl, p1, p2, p3⟩
            have HQ : Hid (PeR wi (.agg #[.int .i64 (peAt l k).area, .int .i64 (peAt l k).house, .slice ar2 (peAt l k).vals.length cr2]) (peAt l k)) := Lib.hid ⟨_, rfl, ar2, cr2, rfl, q1, q2, q3⟩
            clear p3 q3
            obtain ⟨P, hP⟩ : ∃ P, peAt l i = P := ⟨_, rfl⟩
            obtain ⟨Q, hQ⟩ : ∃ P, peAt l k = P := ⟨_, rfl⟩
            rw [hP] at HP HKI HC c0 c1 c2 p1
            rw [hQ] at HQ HKK HC d0 d1 d2 q1
            obtain ⟨A, hA⟩ : ∃ A, P.area = A := ⟨_, rfl⟩
            obtain ⟨A2, hA2⟩ : ∃ A, Q.area = A := ⟨_, rfl⟩
            obtain ⟨B, hB⟩ : ∃ A, P.house = A := ⟨_, rfl⟩
            obtain ⟨B2, hB2⟩ : ∃ A, Q.house = A := ⟨_, rfl⟩
            obtain ⟨n1, hn1⟩ : ∃ n, P.vals.length = n := ⟨_, rfl⟩
            obtain ⟨n2, hn2⟩ : ∃ n, Q.vals.length = n := ⟨_, rfl⟩
            rw [hA, hB, hn1] at HP
            rw [hA2, hB2, hn2] at HQ
            rw [hA] at c0
            rw [hB] at c1
            rw [hn1] at c2 p1
            rw [hA2] at d0
            rw [hB2] at d1
            rw [hn2] at d2 q1
            clear hA hB hn1 hA2 hB2 hn2 hP hQ
            have hii0 : (0 : Int) ≤ (i : Int) := by omega
            have hii1 : (i : Int) < (l.length : Int) := by omega
            have hkk0 : (0 : Int) ≤ (k : Int) := by omega
            have hkk1 : (k : Int) < (l.length : Int) := by omega
            go_wp2_with fail
            go_region_held3 (fun x => x.cell? ⟨b1, o1 + i * 3, none⟩ = some (.int .i64 A) ∧ x.cell? ⟨b1, o1 + i * 3 + 1, none⟩ = some (.int .i64 B) ∧ x.cell? ⟨b1, o1 + i * 3 + 2, none⟩ = some (.slice ar1 n1 cr1) ∧ x.cell? ⟨b1, o1 + k * 3, none⟩ = some (.int .i64 A2) ∧ x.cell? ⟨b1, o1 + k * 3 + 1, none⟩ = some (.int .i64 B2) ∧ x.cell? ⟨b1, o1 + k * 3 + 2, none⟩ = some (.slice ar2 n2 cr2))
              (first | exact ⟨Ext.cell u1 c0, Ext.cell u1 c1, Ext.cell u1 c2, Ext.cell u1 d0, Ext.cell u1 d1, Ext.cell u1 d2⟩ | go_keep)
              ((first | (go_at_call 80; refine (canSwap_b true _ _ _ _ s P Q vars _ HC.out (H1.out.ext (hx.trans (Ext.refl wi).drew)) (HP.out.ext (Ext.refl wi).drew) (HQ.out.ext (Ext.refl wi).drew) (H3.out.ext (hx.trans (Ext.refl wi).drew)) HKI.out HKK.out).mono ?_; rintro e w1 ⟨rfl, u1⟩)))
            have u0 := (Ext.refl wi).drew.trans u1
            have hs := (hx.trans u0).size
            have gg := (HG.out.ext u0).mono u0.size
            have ub := (Ext.refl w1).alloc (.cells #[.int .i64 i, .int .i64 k] 3)
            have uc := ub.alloc (.cells #[.slice (some ⟨w1.heap.size, 0, none⟩) 2 2] 24)
            have hz1 : (w1.alloc (.cells #[.int .i64 i, .int .i64 k] 3)).heap.size = w1.heap.size + 1 := by simp
            have bp := (Box.new w1 3 #[.int .i64 i, .int .i64 k] rfl).alloc (.cells #[.slice (some ⟨w1.heap.size, 0, none⟩) 2 2] 24)
            have hown := (gg.ext uc).own
            rw [HN.out] at hown
            have HOWN := Lib.hid hown; clear hown
            have HBP := Lib.hid bp; clear bp
            have UC := Lib.hid uc; clear uc ub
            have HGG := Lib.hid gg; clear gg
            have HXX := Lib.hid (hx.trans u0)
            go_wp2_with (at_builtin; go_loud (refine app1 _ rfl _ _ 38 24 rfl (.slice none 0 0) 24 Try.underlying38 info_ints rfl w.heap.size _ n rvs rfl HOWN.out (w1.heap.size + 1) 1 24 (.slice (some ⟨w1.heap.size, 0, none⟩) 2 2) rfl (Box.new _ _ _ hz1.symm) rfl (by omega) (by omega) (by simp; omega) ?_))
            intro g cp w3 hown3 hgrow hat hlt3
            have hsg := hgrow.size
            have hsg2 : w1.heap.size + 2 ≤ w3.heap.size := by simp at hsg; omega
            have gn := (HGG.out.ext UC.out).push (hi' := w3.heap.size) (x := .slice (some ⟨w1.heap.size, 0, none⟩) 2 2) (r := pairI i k) hs ((Own.pair HBP.out).mono (Nat.le_refl _) (by omega)) (by omega) hgrow (by rw [HN.out]; exact hown3)
            have hx3 := (HGG.out.ext UC.out).grew (HXX.out.trans UC.out) (Nat.le_refl _) hgrow
            have GN := Lib.hid gn; clear gn
            have HX3 := Lib.hid hx3; clear hx3
            clear hgrow hown3 hsg
            go_wp2
            go_roundw
            case rel => exact ⟨k + 1, _, by omega, by omega, by go_num, by rw [HRL.out]; exact GN.out, HX3.out⟩
            case measure => simp [intOf]; omega
        · have hkl : k = l.length := by omega
          have HCS : Hid (candTo s l vars (i + 1) = candTo s l vars i ++ rowP s l vars i k) := Lib.hid (by rw [hkl]; exact candTo_succ)
          clear hkl
          go_wp2
          go_roundw
          case rel => exact ⟨i + 1, rvs, by omega, by go_num, by rw [HCS.out]; exact HG.out, hx⟩
          case measure => simp [intOf]; omega
    · have hil : i = l.length := by omega
      have HIL := Lib.hid hil; clear hil
      go_wp2
      go_ret
      exact ⟨_, rvs, rfl, by unfold candL; rw [← HIL.out]; exact HG.out.ownG (Nat.le_refl _) (Nat.le_refl _), hx⟩

noncomputable def cdB (s : List Vr) (l : List Pe) (vars : List Int) : Bool := inB s l vars && decide ((candL s l vars).length ≤ 400)
noncomputable def cdV (s : List Vr) (l : List Pe) (vars : List Int) : List (List Int) := if cdB s l vars = true then candL s l vars else []
theorem two_small {L : List (List Int)} (h1 : L.length ≤ 100000) (h2 : ∀ r ∈ L, r.length = 2) : Small L := by
  have h3 : (L.map List.length).sum = 2 * L.length := by
    clear h1
    induction L with
    | nil => rfl
    | cons a t ih =>
      have := ih (fun r hr => h2 r (by simp [hr]))
      have := h2 a (by simp)
      simp only [List.map_cons, List.sum_cons, List.length_cons]
      omega
  exact Small.of_bound (by omega)
theorem cdV_small (s : List Vr) (l : List Pe) (vars : List Int) : Small (cdV s l vars) := by
  unfold cdV
  split
  · rename_i h
    simp only [cdB, Bool.and_eq_true, decide_eq_true_eq] at h
    exact two_small (by omega) (fun r hr => cand_row hr)
  · exact two_small (by simp) (fun r hr => by simp at hr)
theorem retGrid_nil {w w' : World} {b : Bool} (u : Ext w w') : RetGrid (fun v' => .tuple #[v', .bool b]) w [] (.returned (.tuple #[.slice none 0 0, .bool b])) w' := ⟨_, [], rfl, OwnG.nil, u⟩
set_option maxHeartbeats 800000 in
theorem specSwapCandidates_c (v1 : Value) (s : List Vr) (v2 : Value) (l : List Pe) (v3 : Value) (vars : List Int) (w : World) (h1 : Vrs w v1 s) (h2 : Pes w v2 l) (h3 : Ints w v3 vars) (hw : WfV s) :
    Calls Try.prog 47 #[v1, v2, v3] w (RetGrid (fun v' => .tuple #[v', .bool (cdB s l vars)]) w (cdV s l vars)) := by
  have H1 := Lib.hid h1; clear h1
  have H2 := Lib.hid h2; clear h2
  have H3 := Lib.hid h3; clear h3
  have HW := Lib.hid hw; clear hw
  cases hi : inB s l vars
  · have hb : cdB s l vars = false := by simp [cdB, hi]
    have hv : cdV s l vars = [] := by simp [cdV, hb]
    rw [hb, hv]
    have HI := Lib.hid hi; clear hi hb hv
    go_enter Try.func47, Try.ntmps47
    go_wp2_with fail
    refine (swInput_b false _ _ _ s l vars _ HI.out H1.out HW.out H2.out H3.out).mono ?_
    rintro e w1 ⟨rfl, u1⟩
    go_wp2
    go_ret2
    exact retGrid_nil u1
  have HI := Lib.hid hi
  have hlen : (candL s l vars).length ≤ 9223372036854775807 := by
    have h1 := candTo_len (s := s) (l := l) (vars := vars) (i := l.length)
    have h0 := (inB_true.1 hi).2.1
    have h2 : l.length * l.length ≤ 40 * 40 := Nat.mul_le_mul h0 h0
    unfold candL; omega
  by_cases h4 : 400 < (candL s l vars).length
  · have hb : cdB s l vars = false := by simp [cdB]; intro _; omega
    have hv : cdV s l vars = [] := by simp [cdV, hb]
    rw [hb, hv]
    clear hi hb hv
    obtain ⟨L, hL⟩ : ∃ L, candL s l vars = L := ⟨_, rfl⟩
    rw [hL] at h4 hlen
    have HL := Lib.hid hL; clear hL
    go_enter Try.func47, Try.ntmps47
    go_wp2_with fail
    refine (swInput_b true _ _ _ s l vars _ HI.out H1.out HW.out H2.out H3.out).mono ?_
    rintro e w1 ⟨rfl, u1⟩
    go_wp2_with fail
    refine (swCandidates_c _ _ _ s l vars _ HI.out (H1.out.ext u1) (H2.out.ext u1) (H3.out.ext u1)).mono ?_
    rw [HL.out]
    rintro e w2 ⟨x, rvs, rfl, o2, u2⟩
    obtain ⟨a, c, rfl, _, _, qq⟩ := o2
    clear qq
    go_wp2
    go_ret2
    exact retGrid_nil (u1.trans u2)
  · have hb : cdB s l vars = true := by simp [cdB, hi]; omega
    have hv : cdV s l vars = candL s l vars := by simp [cdV, hb]
    rw [hb, hv]
    clear hi hb hv
    obtain ⟨L, hL⟩ : ∃ L, candL s l vars = L := ⟨_, rfl⟩
    rw [hL] at h4 hlen ⊢
    have HL := Lib.hid hL; clear hL
    go_enter Try.func47, Try.ntmps47
    go_wp2_with fail
    refine (swInput_b true _ _ _ s l vars _ HI.out H1.out HW.out H2.out H3.out).mono ?_
    rintro e w1 ⟨rfl, u1⟩
    go_wp2_with fail
    refine (swCandidates_c _ _ _ s l vars _ HI.out (H1.out.ext u1) (H2.out.ext u1) (H3.out.ext u1)).mono ?_
    rw [HL.out]
    rintro e w2 ⟨x, rvs, rfl, o2, u2⟩
    have O := Lib.hid (o2.mono u1.size (Nat.le_refl _))
    obtain ⟨a, c, rfl, _, _, qq⟩ := o2
    clear qq
    go_wp2
    go_ret2
    exact ⟨_, rvs, rfl, O.out, u1.trans u2⟩
set_option maxHeartbeats 800000 in
theorem implSwapCandidates_c (v1 : Value) (s : List Vr) (v2 : Value) (l : List Pe) (v3 : Value) (vars : List Int) (w : World) (h1 : Vrs w v1 s) (h2 : Pes w v2 l) (h3 : Ints w v3 vars) (hw : WfV s) :
    Calls Try.prog 48 #[v1, v2, v3] w (RetGrid (fun v' => .tuple #[v', .bool (cdB s l vars)]) w (cdV s l vars)) := by
  have H1 := Lib.hid h1; clear h1
  have H2 := Lib.hid h2; clear h2
  have H3 := Lib.hid h3; clear h3
  have HW := Lib.hid hw; clear hw
  cases hi : inB s l vars
  · have hb : cdB s l vars = false := by simp [cdB, hi]
    have hv : cdV s l vars = [] := by simp [cdV, hb]
    rw [hb, hv]
    have HI := Lib.hid hi; clear hi hb hv
    go_enter Try.func48, Try.ntmps48
    go_wp2_with fail
    refine (areKeyed_b false _ _ _ s l vars _ HI.out H1.out HW.out H2.out H3.out).mono ?_
    rintro e w1 ⟨rfl, u1⟩
    go_wp2
    go_ret2
    exact retGrid_nil u1
  have HI := Lib.hid hi
  have hlen : (candL s l vars).length ≤ 9223372036854775807 := by
    have h1 := candTo_len (s := s) (l := l) (vars := vars) (i := l.length)
    have h0 := (inB_true.1 hi).2.1
    have h2 : l.length * l.length ≤ 40 * 40 := Nat.mul_le_mul h0 h0
    unfold candL; omega
  by_cases h4 : 400 < (candL s l vars).length
  · have hb : cdB s l vars = false := by simp [cdB]; intro _; omega
    have hv : cdV s l vars = [] := by simp [cdV, hb]
    rw [hb, hv]
    clear hi hb hv
    obtain ⟨L, hL⟩ : ∃ L, candL s l vars = L := ⟨_, rfl⟩
    rw [hL] at h4 hlen
    have HL := Lib.hid hL; clear hL
    go_enter Try.func48, Try.ntmps48
    go_wp2_with fail
    refine (areKeyed_b true _ _ _ s l vars _ HI.out H1.out HW.out H2.out H3.out).mono ?_
    rintro e w1 ⟨rfl, u1⟩
    go_wp2_with fail
    refine (swapCandidates_c _ _ _ s l vars _ HI.out (H1.out.ext u1) (H2.out.ext u1) (H3.out.ext u1)).mono ?_
    rw [HL.out]
    rintro e w2 ⟨x, rvs, rfl, o2, u2⟩
    obtain ⟨a, c, rfl, _, _, qq⟩ := o2
    clear qq
    go_wp2
    go_ret2
    exact retGrid_nil (u1.trans u2)
  · have hb : cdB s l vars = true := by simp [cdB, hi]; omega
    have hv : cdV s l vars = candL s l vars := by simp [cdV, hb]
    rw [hb, hv]
    clear hi hb hv
    obtain ⟨L, hL⟩ : ∃ L, candL s l vars = L := ⟨_, rfl⟩
    rw [hL] at h4 hlen ⊢
    have HL := Lib.hid hL; clear hL
    go_enter Try.func48, Try.ntmps48
    go_wp2_with fail
    refine (areKeyed_b true _ _ _ s l vars _ HI.out H1.out HW.out H2.out H3.out).mono ?_
    rintro e w1 ⟨rfl, u1⟩
    go_wp2_with fail
    refine (swapCandidates_c _ _ _ s l vars _ HI.out (H1.out.ext u1) (H2.out.ext u1) (H3.out.ext u1)).mono ?_
    rw [HL.out]
    rintro e w2 ⟨x, rvs, rfl, o2, u2⟩
    have O := Lib.hid (o2.mono u1.size (Nat.le_refl _))
    obtain ⟨a, c, rfl, _, _, qq⟩ := o2
    clear qq
    go_wp2
    go_ret2
    exact ⟨_, rvs, rfl, O.out, u1.trans u2⟩
end Go.Proofs.Ytkkoidoinbiikaa

