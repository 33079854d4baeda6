/- SwapRate, the spec's and the program's. -/
import Derived.Test.YtkkoidoinbiikaaUsd
import Derived.Test.YtkkoidoinbiikaaPut
import Derived.Test.YtkkoidoinbiikaaFrac
namespace Go.Proofs.Ytkkoidoinbiikaa
open Go.RowKit

/-- the members of a list, strictly increasing -/
def putL (us : List Int) : List Int := us.foldl putI []
theorem putL_nil : putL [] = [] := rfl
theorem putL_snoc (us : List Int) (n : Int) : putL (us ++ [n]) = putI (putL us) n := by simp [putL]
theorem mem_foldI {m : Int} : ∀ (us acc : List Int), m ∈ us.foldl putI acc ↔ m ∈ acc ∨ m ∈ us
  | [], acc => by simp
  | u :: us, acc => by
    rw [List.foldl_cons, mem_foldI us, mem_putI, List.mem_cons]
    constructor
    · rintro ((h | h) | h)
      · exact .inr (.inl h)
      · exact .inl h
      · exact .inr (.inr h)
    · rintro (h | h | h)
      · exact .inl (.inr h)
      · exact .inl (.inl h)
      · exact .inr h
theorem mem_putL {m : Int} {us : List Int} : m ∈ putL us ↔ m ∈ us := by simp [putL, mem_foldI]
theorem incr_foldI : ∀ (us acc : List Int), Incr acc → Incr (us.foldl putI acc)
  | [], _, h => h
  | _ :: us, _, h => incr_foldI us _ (incr_putI h)
theorem incr_putL (us : List Int) : Incr (putL us) := incr_foldI us [] (by simp [Incr])
theorem len_putL_has {us : List Int} {n : Int} (h : hasI us n = true) : (putL (us ++ [n])).length = (putL us).length := by
  rw [putL_snoc, len_putI_has (incr_putL us) (mem_putL.2 (hasI_mem.1 h))]
theorem len_putL_new {us : List Int} {n : Int} (h : hasI us n = false) : (putL (us ++ [n])).length = (putL us).length + 1 := by
  rw [putL_snoc, len_putI_new (fun e => hasI_false.1 h (mem_putL.1 e))]
theorem len_foldI : ∀ (us acc : List Int), (us.foldl putI acc).length ≤ acc.length + us.length
  | [], acc => by simp
  | u :: us, acc => by
    have h1 := len_foldI us (putI acc u)
    have h2 := len_putI_le (n := u) (xs := acc)
    simp only [List.foldl_cons, List.length_cons]; omega
theorem len_putL_le (us : List Int) : (putL us).length ≤ us.length := by have := len_foldI us []; simpa [putL] using this

def SrP (s : List Vr) (l : List Pe) (ps : List (List Int)) : Prop := (SchP s ∧ DatP s l) ∧ PrsP l.length ps ∧ 0 < l.length
/-- how many records are in a pair -/
def srC (ps : List (List Int)) : Nat := (putL (usedTo ps ps.length)).length
open Classical in
noncomputable def srN (s : List Vr) (l : List Pe) (ps : List (List Int)) : Int := if SrP s l ps then fVN (srC ps) l.length else 0
open Classical in
noncomputable def srD (s : List Vr) (l : List Pe) (ps : List (List Int)) : Int := if SrP s l ps then fVD (srC ps) l.length else 0
open Classical in
noncomputable def srB (s : List Vr) (l : List Pe) (ps : List (List Int)) : Bool := if SrP s l ps then fB (srC ps) l.length else false

theorem eqFrac_b (b : Bool) (n1 d1 n2 d2 : Int) (w : World) (hb : decide (n1 = n2 ∧ d1 = d2) = b) :
    Calls Try.prog 46 #[.agg #[.int .i64 n1, .int .i64 d1], .agg #[.int .i64 n2, .int .i64 d2]] w fun e w' => e = .returned (.bool b) ∧ Ext w w' := by
  subst hb
  have u0 := ((Ext.refl w).alloc (.cells #[.int .i64 n1, .int .i64 d1] 64)).alloc (.cells #[.int .i64 n2, .int .i64 d2] 64)
  by_cases h1 : n1 = n2
  · subst h1
    by_cases h2 : d1 = d2
    · subst h2
      go_enter Try.func46, Try.ntmps46
      go_wp2
      go_ret
      exact ⟨by simp, u0⟩
    · have hd : (d1 != d2) = true := by simp [h2]
      go_enter Try.func46, Try.ntmps46
      go_wp2
      go_ret
      exact ⟨by simp [h2], u0⟩
  · have hd : (n1 != n2) = true := by simp [h1]
    go_enter Try.func46, Try.ntmps46
    go_wp2
    go_ret
    exact ⟨by simp [h1], u0⟩

set_option maxRecDepth 100000 in
set_option maxHeartbeats 3200000 in
theorem specSwapRate_c (v1 : Value) (s : List Vr) (v2 : Value) (l : List Pe) (v3 : Value) (ps : List (List Int)) (w : World) (h1 : Vrs w v1 s) (h2 : Pes w v2 l) (h3 : Grid w v3 ps) (hw : WfV s) :
    Calls Try.prog 44 #[v1, v2, v3] w fun e w' => e = .returned (.tuple #[.agg #[.int .i64 (srN s l ps), .int .i64 (srD s l ps)], .bool (srB s l ps)]) ∧ Ext w w' := by
  have u0 := (Ext.refl w).alloc (.cells #[.int .i64 0, .int .i64 0] 64)
  have b0 := Box.new w 64 #[.int .i64 0, .int .i64 0] rfl
  have H1 := Lib.hid h1; clear h1
  have H2 := Lib.hid h2
  have H3 := Lib.hid h3
  have HW := Lib.hid hw; clear hw
  obtain ⟨a2, c2, rfl, e1, e2, g2⟩ := h2
  clear g2
  obtain ⟨a3, c3, rfl, e3, e4, g4⟩ := h3
  have G3 := Lib.hid g4; clear g4
  have HF : Hid (¬ SrP s l ps → srN s l ps = 0 ∧ srD s l ps = 0 ∧ srB s l ps = false) := Lib.hid (fun h => by simp [srN, srD, srB, h])
  have HT : Hid (SrP s l ps → srN s l ps = fVN (srC ps) l.length ∧ srD s l ps = fVD (srC ps) l.length ∧ srB s l ps = fB (srC ps) l.length) := Lib.hid (fun h => by simp [srN, srD, srB, h])
  obtain ⟨N, hN⟩ : ∃ N, srN s l ps = N := ⟨_, rfl⟩
  obtain ⟨D, hD⟩ : ∃ N, srD s l ps = N := ⟨_, rfl⟩
  obtain ⟨B, hB⟩ : ∃ N, srB s l ps = N := ⟨_, rfl⟩
  rw [hN, hD, hB] at HF HT ⊢
  clear hN hD hB
  cases hs : sdB s l
  · obtain ⟨q1, q2, q3⟩ := HF.out (fun h => by have := sdB_true.2 h.1; rw [hs] at this; cases this)
    subst q1 q2 q3
    have HS := Lib.hid hs; clear hs HF HT
    go_enter Try.func44, Try.ntmps44
    go_wp2_with fail
    refine (dInput_b false _ _ s l _ HS.out (H1.out.ext u0) HW.out (H2.out.ext u0)).mono ?_
    rintro e w1 ⟨rfl, u1⟩
    have b1 := b0.ext u1
    have c0 := b1.cell 0 (by simp)
    have c1 := b1.cell 1 (by simp)
    have f0 := b1.free 0
    have f1 := b1.free 1
    have x1 := u0.trans u1
    go_wp2
    refine bodyPost_ret (v := .tuple #[.agg #[.int .i64 0, .int .i64 0], .bool false]) (by simp [results, Try.results44, go_sem, c0, c1]) rfl ⟨rfl, ?_⟩
    exact (x1.setCell _ (by simp)).setCell _ (by simp)
  have HS := Lib.hid hs
  have HSP := Lib.hid (sdB_true.1 hs)
  have h40 := HSP.out.2.1
  clear hs
  cases hp : prsB l.length ps
  · obtain ⟨q1, q2, q3⟩ := HF.out (fun h => by have := prsB_true.2 h.2.1; rw [hp] at this; cases this)
    subst q1 q2 q3
    have HP := Lib.hid hp; clear hp HF HT
    go_enter Try.func44, Try.ntmps44
    go_wp2_with fail
    refine (dInput_b true _ _ s l _ HS.out (H1.out.ext u0) HW.out (H2.out.ext u0)).mono ?_
    rintro e w1 ⟨rfl, u1⟩
    go_wp2_with fail
    refine (swPairs_b false _ ps l.length _ HP.out (H3.out.ext (u0.trans u1)) (by omega)).mono ?_
    rintro e w2 ⟨rfl, d2⟩
    have u2 := Drew.ext d2
    have b1 := (b0.ext u1).ext u2
    have c0 := b1.cell 0 (by simp)
    have c1 := b1.cell 1 (by simp)
    have f0 := b1.free 0
    have f1 := b1.free 1
    have x1 := (u0.trans u1).trans u2
    go_wp2
    refine bodyPost_ret (v := .tuple #[.agg #[.int .i64 0, .int .i64 0], .bool false]) (by simp [results, Try.results44, go_sem, c0, c1]) rfl ⟨rfl, ?_⟩
    exact (x1.setCell _ (by simp)).setCell _ (by simp)
  have HP := Lib.hid hp
  have HPP := Lib.hid (prsB_true.1 hp)
  clear hp
  by_cases h0 : l.length = 0
  · obtain ⟨q1, q2, q3⟩ := HF.out (fun h => by have := h.2.2; omega)
    subst q1 q2 q3
    clear HF HT
    have hd : ((l.length : Int) == 0) = true := by rw [h0]; rfl
    clear h0
    go_enter Try.func44, Try.ntmps44
    go_wp2_with fail
    refine (dInput_b true _ _ s l _ HS.out (H1.out.ext u0) HW.out (H2.out.ext u0)).mono ?_
    rintro e w1 ⟨rfl, u1⟩
    go_wp2_with fail
    refine (swPairs_b true _ ps l.length _ HP.out (H3.out.ext (u0.trans u1)) (by omega)).mono ?_
    rintro e w2 ⟨rfl, d2⟩
    have u2 := Drew.ext d2
    have b1 := (b0.ext u1).ext u2
    have c0 := b1.cell 0 (by simp)
    have c1 := b1.cell 1 (by simp)
    have f0 := b1.free 0
    have f1 := b1.free 1
    have x1 := (u0.trans u1).trans u2
    go_wp2
    refine bodyPost_ret (v := .tuple #[.agg #[.int .i64 0, .int .i64 0], .bool false]) (by simp [results, Try.results44, go_sem, c0, c1]) rfl ⟨rfl, ?_⟩
    exact (x1.setCell _ (by simp)).setCell _ (by simp)
  have hd : ((l.length : Int) == 0) = false := by simp only [beq_eq_false_iff_ne]; omega
  obtain ⟨q1, q2, q3⟩ := HT.out ⟨HSP.out, HPP.out, by omega⟩
  rw [q1, q2, q3]
  clear HF HT q1 q2 q3
  have h20 := HPP.out.1
  go_enter Try.func44, Try.ntmps44
  go_wp2_with fail
  refine (dInput_b true _ _ s l _ HS.out (H1.out.ext u0) HW.out (H2.out.ext u0)).mono ?_
  rintro e w1 ⟨rfl, u1⟩
  go_wp2_with fail
  refine (swPairs_b true _ ps l.length _ HP.out (H3.out.ext (u0.trans u1)) (by omega)).mono ?_
  rintro e w2 ⟨rfl, d2⟩
  have u2 := Drew.ext d2
  have x2 := (u0.trans u1).trans u2
  have b2 := (b0.ext u1).ext u2
  go_wp2
  go_loopw [8, 30] (fun u i wr => ∃ k : Nat, k ≤ ps.length ∧ i = .int .i64 k ∧ Ints wr u (putL (usedTo ps k)) ∧ Ext w2 wr) (fun _ i _ => ps.length - (intOf i).toNat)
  case atStart => exact ⟨0, Nat.zero_le _, rfl, by rw [usedTo_zero, putL_nil]; exact Ints.nil _, Ext.refl _⟩
  case round =>
    obtain ⟨k, hk, rfl, hu, hx⟩ := hrel
    obtain ⟨wo, rfl⟩ : ∃ wo : World, wo = wr := ⟨_, rfl⟩
    have hul := len_putL_le (usedTo ps k)
    rw [usedTo_len HPP.out k hk] at hul
    have HU := Lib.hid hu; clear hu
    have hxx := x2.trans hx
    by_cases hlt : k < ps.length
    · obtain ⟨b1, o1, ar, cr, rfl, hc, r1, r2, r3⟩ := (G3.out.ext hxx).at_ hlt
      obtain ⟨p, q, er, hpq, hq⟩ := pair_eq (HPP.out.2 k hlt)
      have HUSS : Hid (putL (usedTo ps (k + 1)) = putI (putI (putL (usedTo ps k)) p) q) := Lib.hid (by
        rw [usedTo_succ hlt, er, show usedTo ps k ++ [(p : Int), (q : Int)] = (usedTo ps k ++ [(p : Int)]) ++ [(q : Int)] by simp, putL_snoc, putL_snoc])
      obtain ⟨U, hU⟩ : ∃ U, putL (usedTo ps k) = U := ⟨_, rfl⟩
      rw [hU] at HU HUSS hul
      clear hU
      have hl1 := len_putI_le (n := (p : Int)) (xs := U)
      obtain ⟨r, hr⟩ : ∃ r, rowAt ps k = r := ⟨_, rfl⟩
      rw [hr] at hc r1 r3 er
      clear hr
      have hl2 : r.length = 2 := by rw [er]; rfl
      obtain ⟨bx, ox, rfl, hx0⟩ := r3 0 (by rw [hl2]; omega)
      obtain ⟨by', oy, e', hx1⟩ := r3 1 (by rw [hl2]; omega)
      simp only [Option.some.injEq, Addr.mk.injEq, and_true] at e'
      obtain ⟨rfl, rfl⟩ := e'
      have e0 : ix r 0 = p := by rw [er]; rfl
      have e1 : ix r 1 = q := by rw [er]; rfl
      rw [e0, Nat.add_zero] at hx0
      rw [e1] at hx1
      rw [hl2] at hc r1
      clear e0 e1 hl2 er r3
      go_wp2_with fail
      go_region_held3 (fun x => x.cell? ⟨bx, ox, none⟩ = some (.int .i64 p) ∧ x.cell? ⟨bx, ox + 1, none⟩ = some (.int .i64 q))
        (first | exact ⟨Ext.cell u4 (Ext.cell u3 hx0), Ext.cell u4 (Ext.cell u3 hx1)⟩ | exact ⟨Ext.cell u3 hx0, Ext.cell u3 hx1⟩ | go_keep)
        ((first
          | (go_at_call 81; refine (l1Put_c _ (putI U p) (q : Int) _ i3 (by omega)).mono ?_; rintro e w4 ⟨y4, rfl, i4, u4⟩)
          | (go_at_call 81; refine (l1Put_c _ U (p : Int) _ (HU.out.ext (Ext.refl wo).drew) (by omega)).mono ?_; rintro e w3 ⟨y3, rfl, i3, u3⟩)))
      go_wp2
      go_roundw
      case rel => exact ⟨k + 1, by omega, by go_num, by rw [HUSS.out]; exact i4, ((hx.trans (Ext.refl wo).drew).trans u3).trans u4⟩
      case measure => simp [intOf]; omega
    · have hkl : k = ps.length := by omega
      have HC : Hid ((putL (usedTo ps k)).length = srC ps) := Lib.hid (by rw [hkl]; rfl)
      clear hkl
      obtain ⟨U, hU⟩ : ∃ U, putL (usedTo ps k) = U := ⟨_, rfl⟩
      rw [hU] at HU HC hul
      clear hU
      have hu := HU.out
      obtain ⟨au, cu, rfl, _, _, g⟩ := hu
      clear g
      rw [HC.out] at hul HU ⊢
      have b3 := b2.ext hx
      go_wp2_with fail
      refine (fMake_c (srC ps) l.length _ (by omega) (by unfold InR; omega) (by unfold InR; omega)).mono ?_
      rintro e w4 ⟨rfl, u4⟩
      have b4 := b3.ext u4
      have c0 := b4.cell 0 (by simp)
      have c1 := b4.cell 1 (by simp)
      have f0 := b4.free 0
      have f1 := b4.free 1
      have x4 := hxx.trans u4
      go_wp2
      refine bodyPost_ret (v := .tuple #[.agg #[.int .i64 (fVN (srC ps) l.length), .int .i64 (fVD (srC ps) l.length)], .bool (fB (srC ps) l.length)]) (by simp [results, Try.results44, go_sem, c0, c1]) rfl ⟨rfl, ?_⟩
      exact (x4.setCell _ (by simp)).setCell _ (by simp)
end Go.Proofs.Ytkkoidoinbiikaa
