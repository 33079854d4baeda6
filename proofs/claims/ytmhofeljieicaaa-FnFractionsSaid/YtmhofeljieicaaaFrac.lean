/- The spec's and the program's fractions: gcd, lowest terms. -/
import Derived.Test.YtmhofeljieicaaaFracNum
import Derived.Test.YtmhofeljieicaaaCell
import Derived.Test.YtmhofeljieicaaaGrid
namespace Go.Proofs.Ytmhofeljieicaaa
open Go.RowKit

/-- within the range in which no step of these functions wraps -/
def InR (x : Int) : Prop := -4000000000000000000 ≤ x ∧ x ≤ 4000000000000000000

theorem Drew.drew {w w' : World} (h : Drew w w') : Drew w w'.drew := h.drewN 1
theorem tmod_natAbs_lt {x y : Int} (h : y ≠ 0) : (x.tmod y).natAbs < y.natAbs := by
  rw [Int.natAbs_tmod]; exact Nat.mod_lt _ (by omega)

theorem l1Abs_c (a : Int) (w : World) (h : InR a) : Calls Try.prog 42 #[.int .i64 a] w fun e w' => e = .returned (.int .i64 (a.natAbs : Int)) ∧ w' = w := by
  have h' : -4000000000000000000 ≤ a ∧ a ≤ 4000000000000000000 := h
  clear h
  have hr : imax a (-a) = (a.natAbs : Int) := by unfold imax; omega
  have HR := Lib.hid hr; clear hr
  go_enter Try.func42, Try.ntmps42
  go_wp2_with fail
  refine (l1Most_c a (-a) _).mono ?_
  rw [HR.out]
  rintro e w1 ⟨rfl, rfl⟩
  go_wp2
  go_ret
  exact ⟨rfl, rfl⟩

set_option maxHeartbeats 400000 in
theorem fGcd_c (a b : Int) (w : World) (ha : InR a) (hb : InR b) :
    Calls Try.prog 40 #[.int .i64 a, .int .i64 b] w fun e w' => e = .returned (.int .i64 (fg a b : Int)) ∧ w' = w := by
  have HA := Lib.hid ha; clear ha
  have HB := Lib.hid hb; clear hb
  go_enter Try.func40, Try.ntmps40
  go_wp2
  go_loop [0, 1] (fun u v => ∃ x y : Int, u = .int .i64 x ∧ v = .int .i64 y ∧ fg x y = fg a b ∧ InR x ∧ InR y) (fun _ v => (intOf v).natAbs)
  case atStart => exact ⟨a, b, rfl, rfl, rfl, HA.out, HB.out⟩
  case round =>
    obtain ⟨x, y, rfl, rfl, hg, hx, hy⟩ := hrel
    have HG := Lib.hid hg; clear hg
    have HX := Lib.hid hx; clear hx
    have HY := Lib.hid hy; clear hy
    by_cases h0 : y = 0
    · subst h0
      go_wp2_with (go_at_call 42; refine (l1Abs_c x _ HX.out).mono ?_; rintro e w' ⟨rfl, rfl⟩)
      go_ret
      exact ⟨ret_int (by rw [← HG.out, fg_zero]), rfl⟩
    · have hlt := tmod_natAbs_lt (x := x) h0
      have hb := HY.out
      unfold InR at hb
      obtain ⟨r, hr⟩ : ∃ r, x.tmod y = r := ⟨_, rfl⟩
      rw [hr] at hlt
      have hw : IntKind.i64.wrap r = r := IntWalk.i64_in _ (by omega)
      have HR := Lib.hid hr
      go_wp2
      go_round
      case rel => exact ⟨y, r, rfl, rfl, by rw [← HR.out, fg_step]; exact HG.out, HY.out, by unfold InR; omega⟩
      case measure => simp only [intOf]; omega

set_option maxHeartbeats 400000 in
theorem gcdOf_c (a b : Int) (w : World) (ha : InR a) (hb : InR b) :
    Calls Try.prog 24 #[.int .i64 a, .int .i64 b] w fun e w' => e = .returned (.int .i64 (fg a b : Int)) ∧ Drew w w' := by
  have ha' : -4000000000000000000 ≤ a ∧ a ≤ 4000000000000000000 := ha
  have hb' : -4000000000000000000 ≤ b ∧ b ≤ 4000000000000000000 := hb
  clear ha hb
  by_cases h1 : a < 0 <;> by_cases h2 : b < 0
  all_goals
    go_enter Try.func24, Try.ntmps24
    go_wp2
    go_loopw [0, 1] (fun u v wr => ∃ x y : Nat, u = .int .i64 x ∧ v = .int .i64 y ∧ fg x y = fg a b ∧ (x : Int) ≤ 4000000000000000000 ∧ (y : Int) ≤ 4000000000000000000 ∧ Drew w wr) (fun _ v _ => (intOf v).natAbs)
    case atStart => exact ⟨a.natAbs, b.natAbs, by congr 1; omega, by congr 1; omega, by simp [fg], by omega, by omega, Drew.refl w⟩
    case round =>
      obtain ⟨x, y, rfl, rfl, hg, hx, hy, hdr⟩ := hrel
      have HG := Lib.hid hg; clear hg
      by_cases h0 : y = 0
      · subst h0
        go_wp2
        go_ret
        exact ⟨ret_int (by rw [← HG.out]; simp [fg]), hdr⟩
      · obtain ⟨r, hr⟩ : ∃ r, r = x % y := ⟨_, rfl⟩
        have hr1 : (x : Int) % (y : Int) = (r : Int) := by rw [hr]; rfl
        have hlt : r < y := by rw [hr]; exact Nat.mod_lt _ (by omega)
        have hs : fg y r = fg x y := by
          rw [hr]; have := fg_step x y
          rw [← this]; congr 1
        have HS := Lib.hid hs; clear hs
        clear hr
        have hz : ¬ ((y : Int) = 0) := by omega
        have hx0 : (0 : Int) ≤ (x : Int) := by omega
        have hz2 : (x : Int).tmod (y : Int) = (r : Int) := by rw [Int.tmod_eq_emod_of_nonneg hx0]; exact hr1
        have hw : IntKind.i64.wrap (r : Int) = (r : Int) := IntWalk.i64_in _ (by omega)
        go_wp2_with fail
        go_region
        go_wp2
        go_roundw
        case rel => exact ⟨y, r, rfl, rfl, by rw [HS.out]; exact HG.out, by omega, by omega, hdr.drew⟩
        case measure => simp [intOf]; omega

theorem quot_small {n p : Int} {g : Nat} (h : n = p * g) (hg : 0 < g) : p.natAbs ≤ n.natAbs := by
  subst h
  rw [Int.natAbs_mul]; simp
  exact Nat.le_mul_of_pos_right _ hg

set_option maxHeartbeats 800000 in
theorem reduced_c (n d : Int) (w : World) (h0 : d ≠ 0) (hn : InR n) (hd : InR d) :
    Calls Try.prog 20 #[.int .i64 n, .int .i64 d] w fun e w' => e = .returned (.tuple #[.agg #[.int .i64 (fVN n d), .int .i64 (fVD n d)], .bool (fB n d)]) ∧ Ext w w' := by
  have u0 := (Ext.refl w).alloc (.cells #[.int .i64 0, .int .i64 0] 24)
  have b0 := Box.new w 24 #[.int .i64 0, .int .i64 0] rfl
  obtain ⟨p, q, hp, hq, e1, e2, e3, hq0, hs⟩ := fN_fD (n := n) h0
  have hg := fg_pos (n := n) h0
  have hpn := quot_small e1 hg
  have hqn := quot_small e2 hg
  have hn' : -4000000000000000000 ≤ n ∧ n ≤ 4000000000000000000 := hn
  have hd' : -4000000000000000000 ≤ d ∧ d ≤ 4000000000000000000 := hd
  have HN := Lib.hid hn; clear hn
  have HD := Lib.hid hd; clear hd
  have N : fN n d = if d < 0 then -p else p := by unfold fN; rw [hp]
  have D : fD n d = if d < 0 then -q else q := by unfold fD; rw [hq]
  have HND := Lib.hid (And.intro N D); clear N D
  clear e1 e2 e3
  obtain ⟨g, hgg⟩ : ∃ g, g = fg n d := ⟨_, rfl⟩
  rw [← hgg] at hp hq hg
  have HG := Lib.hid hgg; clear hgg
  have hw1 : IntKind.i64.wrap p = p := IntWalk.i64_in _ (by omega)
  have hw2 : IntKind.i64.wrap q = q := IntWalk.i64_in _ (by omega)
  have hg0 : ¬ ((g : Int) = 0) := by omega
  by_cases hd0 : d < 0
  · have hq1 : q < 0 := hs.1 hd0
    clear hs
    have B : fB n d = (decide (-1000000000 ≤ -p) && (decide (-p ≤ 1000000000) && decide (-q ≤ 1000000000))) := by unfold fB; rw [HND.out.1, HND.out.2, if_pos hd0, if_pos hd0]
    have VN : fVN n d = if fB n d = true then -p else 0 := by unfold fVN; rw [HND.out.1, if_pos hd0]
    have VD : fVD n d = if fB n d = true then -q else 0 := by unfold fVD; rw [HND.out.2, if_pos hd0]
    have HB := Lib.hid B; clear B
    have HVN := Lib.hid VN; clear VN
    have HVD := Lib.hid VD; clear VD
    by_cases t1 : 1000000000 < -p
    · go_enter Try.func20, Try.ntmps20
      go_wp2_with fail
      refine (gcdOf_c n d _ HN.out HD.out).mono ?_
      rw [← HG.out]
      rintro e w1 ⟨rfl, hdr⟩
      have b1 := b0.ext (Drew.ext hdr)
      have c0 := b1.cell 0 (by simp)
      have c1 := b1.cell 1 (by simp)
      have f0 := b1.free 0
      have f1 := b1.free 1
      have u1 := (u0.trans (Drew.ext hdr)).drew
      go_wp2_with fail
      go_region
      go_wp2
      have hb : (decide (-1000000000 ≤ -p) && (decide (-p ≤ 1000000000) && decide (-q ≤ 1000000000))) = false := by simp; omega
      have hfb : fB n d = false := by rw [HB.out, hb]
      have hvn : fVN n d = 0 := by rw [HVN.out, hfb]; simp
      have hvd : fVD n d = 0 := by rw [HVD.out, hfb]; simp
      rw [hvn, hvd, hfb]
      refine bodyPost_ret (v := .tuple #[.agg #[.int .i64 (0), .int .i64 (0)], .bool false]) (by simp [results, Try.results20, go_sem, c0, c1]) rfl ⟨rfl, ?_⟩
      exact (u1.setCell _ (by simp)).setCell _ (by simp)
    · by_cases t2 : -p < -1000000000
      · go_enter Try.func20, Try.ntmps20
        go_wp2_with fail
        refine (gcdOf_c n d _ HN.out HD.out).mono ?_
        rw [← HG.out]
        rintro e w1 ⟨rfl, hdr⟩
        have b1 := b0.ext (Drew.ext hdr)
        have c0 := b1.cell 0 (by simp)
        have c1 := b1.cell 1 (by simp)
        have f0 := b1.free 0
        have f1 := b1.free 1
        have u1 := (u0.trans (Drew.ext hdr)).drew
        go_wp2_with fail
        go_region
        go_wp2
        have hb : (decide (-1000000000 ≤ -p) && (decide (-p ≤ 1000000000) && decide (-q ≤ 1000000000))) = false := by simp; omega
        have hfb : fB n d = false := by rw [HB.out, hb]
        have hvn : fVN n d = 0 := by rw [HVN.out, hfb]; simp
        have hvd : fVD n d = 0 := by rw [HVD.out, hfb]; simp
        rw [hvn, hvd, hfb]
        refine bodyPost_ret (v := .tuple #[.agg #[.int .i64 (0), .int .i64 (0)], .bool false]) (by simp [results, Try.results20, go_sem, c0, c1]) rfl ⟨rfl, ?_⟩
        exact (u1.setCell _ (by simp)).setCell _ (by simp)
      · by_cases t3 : 1000000000 < -q
        · go_enter Try.func20, Try.ntmps20
          go_wp2_with fail
          refine (gcdOf_c n d _ HN.out HD.out).mono ?_
          rw [← HG.out]
          rintro e w1 ⟨rfl, hdr⟩
          have b1 := b0.ext (Drew.ext hdr)
          have c0 := b1.cell 0 (by simp)
          have c1 := b1.cell 1 (by simp)
          have f0 := b1.free 0
          have f1 := b1.free 1
          have u1 := (u0.trans (Drew.ext hdr)).drew
          go_wp2_with fail
          go_region
          go_wp2
          have hb : (decide (-1000000000 ≤ -p) && (decide (-p ≤ 1000000000) && decide (-q ≤ 1000000000))) = false := by simp; omega
          have hfb : fB n d = false := by rw [HB.out, hb]
          have hvn : fVN n d = 0 := by rw [HVN.out, hfb]; simp
          have hvd : fVD n d = 0 := by rw [HVD.out, hfb]; simp
          rw [hvn, hvd, hfb]
          refine bodyPost_ret (v := .tuple #[.agg #[.int .i64 (0), .int .i64 (0)], .bool false]) (by simp [results, Try.results20, go_sem, c0, c1]) rfl ⟨rfl, ?_⟩
          exact (u1.setCell _ (by simp)).setCell _ (by simp)
        · go_enter Try.func20, Try.ntmps20
          go_wp2_with fail
          refine (gcdOf_c n d _ HN.out HD.out).mono ?_
          rw [← HG.out]
          rintro e w1 ⟨rfl, hdr⟩
          have b1 := b0.ext (Drew.ext hdr)
          have c0 := b1.cell 0 (by simp)
          have c1 := b1.cell 1 (by simp)
          have f0 := b1.free 0
          have f1 := b1.free 1
          have u1 := (u0.trans (Drew.ext hdr)).drew
          go_wp2_with fail
          go_region
          go_wp2
          have hb : (decide (-1000000000 ≤ -p) && (decide (-p ≤ 1000000000) && decide (-q ≤ 1000000000))) = true := by simp; omega
          have hfb : fB n d = true := by rw [HB.out, hb]
          have hvn : fVN n d = -p := by rw [HVN.out, hfb]; simp
          have hvd : fVD n d = -q := by rw [HVD.out, hfb]; simp
          rw [hvn, hvd, hfb]
          refine bodyPost_ret (v := .tuple #[.agg #[.int .i64 (-p), .int .i64 (-q)], .bool true]) (by simp [results, Try.results20, go_sem, c0, c1]) rfl ⟨rfl, ?_⟩
          exact (u1.setCell _ (by simp)).setCell _ (by simp)
  · have hq1 : 0 < q := by
      rcases Int.lt_trichotomy q 0 with h | h | h
      · exact absurd (hs.2 h) hd0
      · exact absurd h hq0
      · exact h
    clear hs
    have B : fB n d = (decide (-1000000000 ≤ p) && (decide (p ≤ 1000000000) && decide (q ≤ 1000000000))) := by unfold fB; rw [HND.out.1, HND.out.2, if_neg hd0, if_neg hd0]
    have VN : fVN n d = if fB n d = true then p else 0 := by unfold fVN; rw [HND.out.1, if_neg hd0]
    have VD : fVD n d = if fB n d = true then q else 0 := by unfold fVD; rw [HND.out.2, if_neg hd0]
    have HB := Lib.hid B; clear B
    have HVN := Lib.hid VN; clear VN
    have HVD := Lib.hid VD; clear VD
    by_cases t1 : 1000000000 < p
    · go_enter Try.func20, Try.ntmps20
      go_wp2_with fail
      refine (gcdOf_c n d _ HN.out HD.out).mono ?_
      rw [← HG.out]
      rintro e w1 ⟨rfl, hdr⟩
      have b1 := b0.ext (Drew.ext hdr)
      have c0 := b1.cell 0 (by simp)
      have c1 := b1.cell 1 (by simp)
      have f0 := b1.free 0
      have f1 := b1.free 1
      have u1 := (u0.trans (Drew.ext hdr)).drew
      go_wp2_with fail
      go_region
      go_wp2
      have hb : (decide (-1000000000 ≤ p) && (decide (p ≤ 1000000000) && decide (q ≤ 1000000000))) = false := by simp; omega
      have hfb : fB n d = false := by rw [HB.out, hb]
      have hvn : fVN n d = 0 := by rw [HVN.out, hfb]; simp
      have hvd : fVD n d = 0 := by rw [HVD.out, hfb]; simp
      rw [hvn, hvd, hfb]
      refine bodyPost_ret (v := .tuple #[.agg #[.int .i64 (0), .int .i64 (0)], .bool false]) (by simp [results, Try.results20, go_sem, c0, c1]) rfl ⟨rfl, ?_⟩
      exact (u1.setCell _ (by simp)).setCell _ (by simp)
    · by_cases t2 : p < -1000000000
      · go_enter Try.func20, Try.ntmps20
        go_wp2_with fail
        refine (gcdOf_c n d _ HN.out HD.out).mono ?_
        rw [← HG.out]
        rintro e w1 ⟨rfl, hdr⟩
        have b1 := b0.ext (Drew.ext hdr)
        have c0 := b1.cell 0 (by simp)
        have c1 := b1.cell 1 (by simp)
        have f0 := b1.free 0
        have f1 := b1.free 1
        have u1 := (u0.trans (Drew.ext hdr)).drew
        go_wp2_with fail
        go_region
        go_wp2
        have hb : (decide (-1000000000 ≤ p) && (decide (p ≤ 1000000000) && decide (q ≤ 1000000000))) = false := by simp; omega
        have hfb : fB n d = false := by rw [HB.out, hb]
        have hvn : fVN n d = 0 := by rw [HVN.out, hfb]; simp
        have hvd : fVD n d = 0 := by rw [HVD.out, hfb]; simp
        rw [hvn, hvd, hfb]
        refine bodyPost_ret (v := .tuple #[.agg #[.int .i64 (0), .int .i64 (0)], .bool false]) (by simp [results, Try.results20, go_sem, c0, c1]) rfl ⟨rfl, ?_⟩
        exact (u1.setCell _ (by simp)).setCell _ (by simp)
      · by_cases t3 : 1000000000 < q
        · go_enter Try.func20, Try.ntmps20
          go_wp2_with fail
          refine (gcdOf_c n d _ HN.out HD.out).mono ?_
          rw [← HG.out]
          rintro e w1 ⟨rfl, hdr⟩
          have b1 := b0.ext (Drew.ext hdr)
          have c0 := b1.cell 0 (by simp)
          have c1 := b1.cell 1 (by simp)
          have f0 := b1.free 0
          have f1 := b1.free 1
          have u1 := (u0.trans (Drew.ext hdr)).drew
          go_wp2_with fail
          go_region
          go_wp2
          have hb : (decide (-1000000000 ≤ p) && (decide (p ≤ 1000000000) && decide (q ≤ 1000000000))) = false := by simp; omega
          have hfb : fB n d = false := by rw [HB.out, hb]
          have hvn : fVN n d = 0 := by rw [HVN.out, hfb]; simp
          have hvd : fVD n d = 0 := by rw [HVD.out, hfb]; simp
          rw [hvn, hvd, hfb]
          refine bodyPost_ret (v := .tuple #[.agg #[.int .i64 (0), .int .i64 (0)], .bool false]) (by simp [results, Try.results20, go_sem, c0, c1]) rfl ⟨rfl, ?_⟩
          exact (u1.setCell _ (by simp)).setCell _ (by simp)
        · go_enter Try.func20, Try.ntmps20
          go_wp2_with fail
          refine (gcdOf_c n d _ HN.out HD.out).mono ?_
          rw [← HG.out]
          rintro e w1 ⟨rfl, hdr⟩
          have b1 := b0.ext (Drew.ext hdr)
          have c0 := b1.cell 0 (by simp)
          have c1 := b1.cell 1 (by simp)
          have f0 := b1.free 0
          have f1 := b1.free 1
          have u1 := (u0.trans (Drew.ext hdr)).drew
          go_wp2_with fail
          go_region
          go_wp2
          have hb : (decide (-1000000000 ≤ p) && (decide (p ≤ 1000000000) && decide (q ≤ 1000000000))) = true := by simp; omega
          have hfb : fB n d = true := by rw [HB.out, hb]
          have hvn : fVN n d = p := by rw [HVN.out, hfb]; simp
          have hvd : fVD n d = q := by rw [HVD.out, hfb]; simp
          rw [hvn, hvd, hfb]
          refine bodyPost_ret (v := .tuple #[.agg #[.int .i64 (p), .int .i64 (q)], .bool true]) (by simp [results, Try.results20, go_sem, c0, c1]) rfl ⟨rfl, ?_⟩
          exact (u1.setCell _ (by simp)).setCell _ (by simp)

set_option maxHeartbeats 800000 in
theorem fGood_b (b : Bool) (n d : Int) (w : World) (hb : goodF n d = b) (hn : InR n) (hd : InR d) :
    Calls Try.prog 36 #[.agg #[.int .i64 n, .int .i64 d]] w fun e w' => e = .returned (.bool b) ∧ Ext w w' := by
  subst hb
  have HN := Lib.hid hn; clear hn
  have HD := Lib.hid hd; clear hd
  have b0 := Box.new w 24 #[.int .i64 n, .int .i64 d] rfl
  have u0 := (Ext.refl w).alloc (.cells #[.int .i64 n, .int .i64 d] 24)
  have HU := Lib.hid u0; clear u0
  have c0 := b0.cell 0 (by simp)
  have c1 := b0.cell 1 (by simp)
  cases h1 : (decide (1 ≤ d) && decide (d ≤ 1000000000))
  · have e : goodF n d = false := by unfold goodF; rw [← Bool.and_assoc, h1]; rfl
    have HE := Lib.hid e; clear e
    have H1 := Lib.hid h1; clear h1
    go_enter Try.func36, Try.ntmps36
    go_wp2_with fail
    refine (l1In_b false d 1 1000000000 _ H1.out).mono ?_
    rintro e w' ⟨rfl, rfl⟩
    go_wp2
    go_ret
    exact ⟨ret_bool HE.out.symm, HU.out⟩
  · cases h2 : (decide (-1000000000 ≤ n) && decide (n ≤ 1000000000))
    · have e : goodF n d = false := by
        unfold goodF
        rw [← Bool.and_assoc, h1, Bool.true_and, ← Bool.and_assoc, h2]; rfl
      have HE := Lib.hid e; clear e
      have H1 := Lib.hid h1; clear h1
      have H2 := Lib.hid h2; clear h2
      go_enter Try.func36, Try.ntmps36
      go_wp2_with fail
      refine (l1In_b true d 1 1000000000 _ H1.out).mono ?_
      rintro e w' ⟨rfl, rfl⟩
      go_wp2_with fail
      refine (l1In_b false n (-1000000000) 1000000000 _ H2.out).mono ?_
      rintro e w' ⟨rfl, rfl⟩
      go_wp2
      go_ret
      exact ⟨ret_bool HE.out.symm, HU.out⟩
    · have e : goodF n d = decide (fg n d = 1) := by
        unfold goodF
        rw [← Bool.and_assoc, h1, Bool.true_and, ← Bool.and_assoc, h2, Bool.true_and]
      have e3 : decide ((fg n d : Int) = 1) = decide (fg n d = 1) := by
        apply decide_eq_decide.2; omega
      have HE := Lib.hid e; clear e
      have HE3 := Lib.hid e3; clear e3
      have H1 := Lib.hid h1; clear h1
      have H2 := Lib.hid h2; clear h2
      go_enter Try.func36, Try.ntmps36
      go_wp2_with fail
      refine (l1In_b true d 1 1000000000 _ H1.out).mono ?_
      rintro e w' ⟨rfl, rfl⟩
      go_wp2_with fail
      refine (l1In_b true n (-1000000000) 1000000000 _ H2.out).mono ?_
      rintro e w' ⟨rfl, rfl⟩
      go_wp2_with fail
      refine (fGcd_c n d _ HN.out HD.out).mono ?_
      rintro e w' ⟨rfl, rfl⟩
      go_wp2
      go_ret
      exact ⟨ret_bool (by rw [HE.out]; first | exact HE3.out | exact HE3.out.symm | simp), HU.out⟩

theorem Ext.drew' {w w' : World} (h : Ext w w') : Ext w w'.drew := h.drewN 1
set_option maxHeartbeats 1600000 in
theorem fMake_c (n d : Int) (w : World) (h0 : d ≠ 0) (hn : InR n) (hd : InR d) :
    Calls Try.prog 37 #[.int .i64 n, .int .i64 d] w fun e w' => e = .returned (.tuple #[.agg #[.int .i64 (fVN n d), .int .i64 (fVD n d)], .bool (fB n d)]) ∧ Ext w w' := by
  have u0 := (Ext.refl w).alloc (.cells #[.int .i64 0, .int .i64 0] 24)
  have b0 := Box.new w 24 #[.int .i64 0, .int .i64 0] rfl
  have HGM := Lib.hid (goodF_make (n := n) h0)
  obtain ⟨p, q, hp, hq, e1, e2, e3, hq0, hs⟩ := fN_fD (n := n) h0
  have hg := fg_pos (n := n) h0
  have hpn := quot_small e1 hg
  have hqn := quot_small e2 hg
  have hn' : -4000000000000000000 ≤ n ∧ n ≤ 4000000000000000000 := hn
  have hd' : -4000000000000000000 ≤ d ∧ d ≤ 4000000000000000000 := hd
  have HN := Lib.hid hn; clear hn
  have HD := Lib.hid hd; clear hd
  have N : fN n d = if d < 0 then -p else p := by unfold fN; rw [hp]
  have D : fD n d = if d < 0 then -q else q := by unfold fD; rw [hq]
  have HND := Lib.hid (And.intro N D); clear N D
  clear e1 e2 e3 hs
  obtain ⟨g, hgg⟩ : ∃ g, g = fg n d := ⟨_, rfl⟩
  rw [← hgg] at hp hq hg
  have hgl : (g : Int) ≤ 4000000000000000000 := by
    have := fg_le_right (n := n) h0
    rw [← hgg] at this; omega
  have HG := Lib.hid hgg; clear hgg
  by_cases hd0 : d < 0
  · have hp' : n.tdiv (-(g : Int)) = -p := by rw [Int.tdiv_neg, hp]
    have hq' : d.tdiv (-(g : Int)) = -q := by rw [Int.tdiv_neg, hq]
    clear hp hq
    have hz : ¬ (-(g : Int) = 0) := by omega
    have hw1 : IntKind.i64.wrap (-p) = -p := IntWalk.i64_in _ (by omega)
    have hw2 : IntKind.i64.wrap (-q) = -q := IntWalk.i64_in _ (by omega)
    have VN : fVN n d = if fB n d = true then -p else 0 := by unfold fVN; rw [HND.out.1, if_pos hd0]
    have VD : fVD n d = if fB n d = true then -q else 0 := by unfold fVD; rw [HND.out.2, if_pos hd0]
    have HVN := Lib.hid VN; clear VN
    have HVD := Lib.hid VD; clear VD
    have gm : goodF (-p) (-q) = fB n d := by have := HGM.out; rw [HND.out.1, HND.out.2, if_pos hd0, if_pos hd0] at this; exact this
    have HGM2 := Lib.hid gm; clear gm
    have i1 : InR (-p) := by unfold InR; omega
    have i2 : InR (-q) := by unfold InR; omega
    have I1 := Lib.hid i1; clear i1
    have I2 := Lib.hid i2; clear i2
    cases hb : fB n d
    · have hvn : fVN n d = 0 := by rw [HVN.out, hb]; simp
      have hvd : fVD n d = 0 := by rw [HVD.out, hb]; simp
      rw [hvn, hvd]
      have HB := Lib.hid hb; clear hb hvn hvd
      go_enter Try.func37, Try.ntmps37
      go_wp2_with fail
      refine (fGcd_c n d _ HN.out HD.out).mono ?_
      rw [← HG.out]
      rintro e w' ⟨rfl, rfl⟩
      go_wp2_with fail
      go_region
      go_wp2_with fail
      refine (fGood_b false (-p) (-q) _ (by rw [HGM2.out, HB.out]) I1.out I2.out).mono ?_
      rintro e w2 ⟨rfl, u2⟩
      have b2 := (b0.drew.alloc (.cells #[.int .i64 (-p), .int .i64 (-q)] 24)).ext u2
      have n2 : Box w2 (w.heap.size + 1) 24 #[.int .i64 (-p), .int .i64 (-q)] := by
        have := (Box.new (w.alloc (.cells #[.int .i64 0, .int .i64 0] 24)).drew 24 #[.int .i64 (-p), .int .i64 (-q)] rfl).ext u2
        simpa using this
      have c0 := b2.cell 0 (by simp)
      have c1 := b2.cell 1 (by simp)
      have f0 := b2.free 0
      have f1 := b2.free 1
      have k0 := n2.cell 0 (by simp)
      have k1 := n2.cell 1 (by simp)
      have u1 := ((u0.drew.alloc (.cells #[.int .i64 (-p), .int .i64 (-q)] 24)).trans u2)
      go_wp2
      refine bodyPost_ret (v := .tuple #[.agg #[.int .i64 (0), .int .i64 (0)], .bool false]) (by simp [results, Try.results37, go_sem, c0, c1]) rfl ⟨rfl, ?_⟩
      exact (u1.setCell _ (by simp)).setCell _ (by simp)
    · have hvn : fVN n d = -p := by rw [HVN.out, hb]; simp
      have hvd : fVD n d = -q := by rw [HVD.out, hb]; simp
      rw [hvn, hvd]
      have HB := Lib.hid hb; clear hb hvn hvd
      go_enter Try.func37, Try.ntmps37
      go_wp2_with fail
      refine (fGcd_c n d _ HN.out HD.out).mono ?_
      rw [← HG.out]
      rintro e w' ⟨rfl, rfl⟩
      go_wp2_with fail
      go_region
      go_wp2_with fail
      refine (fGood_b true (-p) (-q) _ (by rw [HGM2.out, HB.out]) I1.out I2.out).mono ?_
      rintro e w2 ⟨rfl, u2⟩
      have b2 := (b0.drew.alloc (.cells #[.int .i64 (-p), .int .i64 (-q)] 24)).ext u2
      have n2 : Box w2 (w.heap.size + 1) 24 #[.int .i64 (-p), .int .i64 (-q)] := by
        have := (Box.new (w.alloc (.cells #[.int .i64 0, .int .i64 0] 24)).drew 24 #[.int .i64 (-p), .int .i64 (-q)] rfl).ext u2
        simpa using this
      have c0 := b2.cell 0 (by simp)
      have c1 := b2.cell 1 (by simp)
      have f0 := b2.free 0
      have f1 := b2.free 1
      have k0 := n2.cell 0 (by simp)
      have k1 := n2.cell 1 (by simp)
      have u1 := ((u0.drew.alloc (.cells #[.int .i64 (-p), .int .i64 (-q)] 24)).trans u2)
      go_wp2
      refine bodyPost_ret (v := .tuple #[.agg #[.int .i64 (-p), .int .i64 (-q)], .bool true]) (by simp [results, Try.results37, go_sem, c0, c1]) rfl ⟨rfl, ?_⟩
      exact (u1.setCell _ (by simp)).setCell _ (by simp)
  · have hz : ¬ ((g : Int) = 0) := by omega
    have hw1 : IntKind.i64.wrap (p) = p := IntWalk.i64_in _ (by omega)
    have hw2 : IntKind.i64.wrap (q) = q := IntWalk.i64_in _ (by omega)
    have VN : fVN n d = if fB n d = true then p else 0 := by unfold fVN; rw [HND.out.1, if_neg hd0]
    have VD : fVD n d = if fB n d = true then q else 0 := by unfold fVD; rw [HND.out.2, if_neg hd0]
    have HVN := Lib.hid VN; clear VN
    have HVD := Lib.hid VD; clear VD
    have gm : goodF (p) (q) = fB n d := by have := HGM.out; rw [HND.out.1, HND.out.2, if_neg hd0, if_neg hd0] at this; exact this
    have HGM2 := Lib.hid gm; clear gm
    have i1 : InR (p) := by unfold InR; omega
    have i2 : InR (q) := by unfold InR; omega
    have I1 := Lib.hid i1; clear i1
    have I2 := Lib.hid i2; clear i2
    cases hb : fB n d
    · have hvn : fVN n d = 0 := by rw [HVN.out, hb]; simp
      have hvd : fVD n d = 0 := by rw [HVD.out, hb]; simp
      rw [hvn, hvd]
      have HB := Lib.hid hb; clear hb hvn hvd
      go_enter Try.func37, Try.ntmps37
      go_wp2_with fail
      refine (fGcd_c n d _ HN.out HD.out).mono ?_
      rw [← HG.out]
      rintro e w' ⟨rfl, rfl⟩
      go_wp2_with fail
      go_region
      go_wp2_with fail
      refine (fGood_b false (p) (q) _ (by rw [HGM2.out, HB.out]) I1.out I2.out).mono ?_
      rintro e w2 ⟨rfl, u2⟩
      have b2 := (b0.drew.alloc (.cells #[.int .i64 (p), .int .i64 (q)] 24)).ext u2
      have n2 : Box w2 (w.heap.size + 1) 24 #[.int .i64 (p), .int .i64 (q)] := by
        have := (Box.new (w.alloc (.cells #[.int .i64 0, .int .i64 0] 24)).drew 24 #[.int .i64 (p), .int .i64 (q)] rfl).ext u2
        simpa using this
      have c0 := b2.cell 0 (by simp)
      have c1 := b2.cell 1 (by simp)
      have f0 := b2.free 0
      have f1 := b2.free 1
      have k0 := n2.cell 0 (by simp)
      have k1 := n2.cell 1 (by simp)
      have u1 := ((u0.drew.alloc (.cells #[.int .i64 (p), .int .i64 (q)] 24)).trans u2)
      go_wp2
      refine bodyPost_ret (v := .tuple #[.agg #[.int .i64 (0), .int .i64 (0)], .bool false]) (by simp [results, Try.results37, go_sem, c0, c1]) rfl ⟨rfl, ?_⟩
      exact (u1.setCell _ (by simp)).setCell _ (by simp)
    · have hvn : fVN n d = p := by rw [HVN.out, hb]; simp
      have hvd : fVD n d = q := by rw [HVD.out, hb]; simp
      rw [hvn, hvd]
      have HB := Lib.hid hb; clear hb hvn hvd
      go_enter Try.func37, Try.ntmps37
      go_wp2_with fail
      refine (fGcd_c n d _ HN.out HD.out).mono ?_
      rw [← HG.out]
      rintro e w' ⟨rfl, rfl⟩
      go_wp2_with fail
      go_region
      go_wp2_with fail
      refine (fGood_b true (p) (q) _ (by rw [HGM2.out, HB.out]) I1.out I2.out).mono ?_
      rintro e w2 ⟨rfl, u2⟩
      have b2 := (b0.drew.alloc (.cells #[.int .i64 (p), .int .i64 (q)] 24)).ext u2
      have n2 : Box w2 (w.heap.size + 1) 24 #[.int .i64 (p), .int .i64 (q)] := by
        have := (Box.new (w.alloc (.cells #[.int .i64 0, .int .i64 0] 24)).drew 24 #[.int .i64 (p), .int .i64 (q)] rfl).ext u2
        simpa using this
      have c0 := b2.cell 0 (by simp)
      have c1 := b2.cell 1 (by simp)
      have f0 := b2.free 0
      have f1 := b2.free 1
      have k0 := n2.cell 0 (by simp)
      have k1 := n2.cell 1 (by simp)
      have u1 := ((u0.drew.alloc (.cells #[.int .i64 (p), .int .i64 (q)] 24)).trans u2)
      go_wp2
      refine bodyPost_ret (v := .tuple #[.agg #[.int .i64 (p), .int .i64 (q)], .bool true]) (by simp [results, Try.results37, go_sem, c0, c1]) rfl ⟨rfl, ?_⟩
      exact (u1.setCell _ (by simp)).setCell _ (by simp)
end Go.Proofs.Ytmhofeljieicaaa
