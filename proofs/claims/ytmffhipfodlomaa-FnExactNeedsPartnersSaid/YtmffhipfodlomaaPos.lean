/- The positions of a pattern's ones; whether a pattern covers another; whether a cell is alone in its row or column. -/
import Derived.Test.YtmffhipfodlomaaPub
import Derived.Test.YtmffhipfodlomaaSums
import Derived.BigRegion
namespace Go.Proofs.Ytmffhipfodlomaa
open Go.RowKit

def posRow (p : List (List Int)) (i l : Nat) : List (List Int) := ((List.range l).filter fun j => decide (ix (rowAt p i) j = 1)).map fun (j : Nat) => [(i : Int), (j : Int)]
def posRows (p : List (List Int)) (k : Nat) : List (List Int) := (List.range k).flatMap fun i => posRow p i (rowAt p i).length
def posTo (p : List (List Int)) (k l : Nat) : List (List Int) := posRows p k ++ posRow p k l
def posOf (p : List (List Int)) : List (List Int) := posTo p p.length 0
theorem posTo_zero (p : List (List Int)) : posTo p 0 0 = [] := by simp [posTo, posRows, posRow]
theorem posTo_yes {p : List (List Int)} {k l : Nat} (h : ix (rowAt p k) l = 1) : posTo p k (l + 1) = posTo p k l ++ [[(k : Int), (l : Int)]] := by
  simp [posTo, posRow, List.range_succ, List.filter_append, h]
theorem posTo_no {p : List (List Int)} {k l : Nat} (h : ix (rowAt p k) l ≠ 1) : posTo p k (l + 1) = posTo p k l := by
  simp [posTo, posRow, List.range_succ, List.filter_append, h]
theorem posTo_next {p : List (List Int)} {k l : Nat} (h : (rowAt p k).length = l) : posTo p (k + 1) 0 = posTo p k l := by
  subst h; simp [posTo, posRows, posRow, List.range_succ]
theorem posRow_length (p : List (List Int)) (i l : Nat) : (posRow p i l).length ≤ l := by
  have := List.length_filter_le (fun j => decide (ix (rowAt p i) j = 1)) (List.range l)
  simpa [posRow] using this
theorem posRows_length {p : List (List Int)} {d : Nat} (h : ∀ i, (rowAt p i).length ≤ d) (k : Nat) : (posRows p k).length ≤ d * k := by
  induction k with
  | zero => simp [posRows]
  | succ k ih =>
    have h1 := posRow_length p k (rowAt p k).length
    have h2 := h k
    have : posRows p (k + 1) = posRows p k ++ posRow p k (rowAt p k).length := by simp [posRows, List.range_succ]
    rw [this, List.length_append, Nat.mul_succ]; omega
theorem posTo_length {p : List (List Int)} {d : Nat} (h : ∀ i, (rowAt p i).length ≤ d) (k l : Nat) : (posTo p k l).length ≤ d * k + l := by
  have h1 := posRows_length h k
  have h2 := posRow_length p k l
  simp only [posTo, List.length_append]; omega
/-- what stands in the list of positions -/
theorem posTo_mem {p : List (List Int)} {k l : Nat} {r : List Int} (hk : l = 0 ∨ k < p.length) (hl : l ≤ (rowAt p k).length) (hkl : k ≤ p.length) (h : r ∈ posTo p k l) :
    ∃ i j : Nat, r = [(i : Int), (j : Int)] ∧ i < p.length ∧ j < (rowAt p i).length ∧ ix (rowAt p i) j = 1 ∧ (i < k ∨ (i = k ∧ j < l)) := by
  simp only [posTo, posRows, posRow, List.mem_append, List.mem_flatMap, List.mem_range, List.mem_map, List.mem_filter, decide_eq_true_eq] at h
  rcases h with ⟨i, hi, j, ⟨hj, h1⟩, rfl⟩ | ⟨j, ⟨hj, h1⟩, rfl⟩
  · exact ⟨i, j, rfl, by omega, hj, h1, .inl hi⟩
  · exact ⟨k, j, rfl, by omega, by omega, h1, .inr ⟨rfl, hj⟩⟩
theorem posOf_mem {p : List (List Int)} {r : List Int} (h : r ∈ posOf p) : ∃ i j : Nat, r = [(i : Int), (j : Int)] ∧ i < p.length ∧ j < (rowAt p i).length ∧ ix (rowAt p i) j = 1 := by
  obtain ⟨i, j, a, b, c, d, _⟩ := posTo_mem (.inl rfl) (Nat.zero_le _) (Nat.le_refl _) h
  exact ⟨i, j, a, b, c, d⟩
theorem posOf_has {p : List (List Int)} {i j : Nat} (hi : i < p.length) (hj : j < (rowAt p i).length) (h : ix (rowAt p i) j = 1) : [(i : Int), (j : Int)] ∈ posOf p := by
  simp only [posOf, posTo, posRows, posRow, List.mem_append, List.mem_flatMap, List.mem_range, List.mem_map, List.mem_filter, decide_eq_true_eq]
  exact .inl ⟨i, hi, j, ⟨hj, h⟩, rfl⟩
theorem posOf_at {p : List (List Int)} {n : Nat} (h : n < (posOf p).length) : ∃ i j : Nat, rowAt (posOf p) n = [(i : Int), (j : Int)] ∧ i < p.length ∧ j < (rowAt p i).length ∧ ix (rowAt p i) j = 1 := posOf_mem (rowAt_mem h)
theorem posOf_row {p : List (List Int)} {i j : Nat} (hi : i < p.length) (hj : j < (rowAt p i).length) (h : ix (rowAt p i) j = 1) : ∃ n, n < (posOf p).length ∧ rowAt (posOf p) n = [(i : Int), (j : Int)] := by
  obtain ⟨n, hn, e⟩ := List.getElem_of_mem (posOf_has hi hj h)
  exact ⟨n, hn, by rw [rowAt_eq hn]; exact e⟩

/-- q is of the shape of p, and small -/
structure Like (p q : List (List Int)) : Prop where
  n1 : 1 ≤ q.length
  n8 : q.length ≤ 8
  len : q.length = p.length
  row : ∀ k, k < p.length → (rowAt q k).length = (rowAt p k).length ∧ 1 ≤ (rowAt q k).length ∧ (rowAt q k).length ≤ 8
  eq : ∀ k, k < p.length → (rowAt p k).length = (rowAt p 0).length
theorem like_of {x p q : List (List Int)} (h1 : pubB x p = true) (h2 : pubB x q = true) : Like p q := by
  have a := pubB_shape h1
  have b := pubB_shape h2
  have g := gridB_true.1 a.1
  refine ⟨by omega, by omega, by omega, fun k hk => ?_, fun k hk => ?_⟩
  · have a1 := a.2.2.2.2 k (by omega)
    have b1 := b.2.2.2.2 k (by omega)
    omega
  · have a1 := a.2.2.2.2 k (by omega)
    have a0 := a.2.2.2.2 0 (by omega)
    have := (g.2.2.2.2 k (by omega)).1
    omega
open Classical in
noncomputable def coversB (p q : List (List Int)) : Bool := decide (∀ i j, i < q.length → j < (rowAt q i).length → ix (rowAt q i) j = 1 → ix (rowAt p i) j ≠ 0)
open Classical in
noncomputable def aloneB (p q : List (List Int)) : Bool := decide (∃ i j, i < q.length ∧ j < (rowAt q i).length ∧ ix (rowAt q i) j = 1 ∧ ((rowAt p i).sum = 1 ∨ (colOf p j).sum = 1))
open Classical in
theorem coversB_false {p q : List (List Int)} {i j : Nat} (hi : i < q.length) (hj : j < (rowAt q i).length) (h : ix (rowAt q i) j = 1) (h0 : ix (rowAt p i) j = 0) : coversB p q = false := by
  unfold coversB; exact decide_eq_false (fun hh => hh i j hi hj h h0)
open Classical in
theorem coversB_true {p q : List (List Int)} (h : ∀ i j, i < q.length → j < (rowAt q i).length → ix (rowAt q i) j = 1 → ix (rowAt p i) j ≠ 0) : coversB p q = true := by
  unfold coversB; exact decide_eq_true h
open Classical in
theorem aloneB_true {p q : List (List Int)} {i j : Nat} (hi : i < q.length) (hj : j < (rowAt q i).length) (h : ix (rowAt q i) j = 1) (h0 : (rowAt p i).sum = 1 ∨ (colOf p j).sum = 1) : aloneB p q = true := by
  unfold aloneB; exact decide_eq_true ⟨i, j, hi, hj, h, h0⟩
open Classical in
theorem aloneB_false {p q : List (List Int)} (h : ∀ i j, i < q.length → j < (rowAt q i).length → ix (rowAt q i) j = 1 → ¬ ((rowAt p i).sum = 1 ∨ (colOf p j).sum = 1)) : aloneB p q = false := by
  unfold aloneB; exact decide_eq_false (by rintro ⟨i, j, a, b, c, d⟩; exact h i j a b c d)
/-- two ints in a block of their own -/
theorem Own.pair {lo hi b : Nat} {w : World} {x y : Int} (h : Box w b 3 #[.int .i64 x, .int .i64 y]) (h1 : lo ≤ b) (h2 : b < hi) : Own lo hi w (.slice (some ⟨b, 0, none⟩) 2 2) [x, y] := by
  refine ⟨_, 2, rfl, Nat.le_refl _, by omega, .inr ⟨b, 0, _, rfl, h1, h2, h, fun k hk => ?_⟩⟩
  simp only [List.length_cons, List.length_nil] at hk
  rcases k with _ | _ | k
  · simp [ix, List.getD]
  · simp [ix, List.getD]
  · omega

set_option maxHeartbeats 3200000 in
theorem positions_c (v : Value) (p : List (List Int)) (w : World) (h : Grid w v p) (hl : p.length ≤ 8) (hr : ∀ i, (rowAt p i).length ≤ 8) :
    Calls Try.prog 86 #[v] w (RetGrid (fun v' => v') w (posOf p)) := by
  obtain ⟨ao, cap, rfl, h1, h2, h3⟩ := h
  have G := Lib.hid h3; clear h3
  have HR := Lib.hid hr; clear hr
  go_enter Try.func86, Try.ntmps86
  go_wp2
  go_loopw [3, 10] (fun r i wr => ∃ (k : Nat) (rvs : List Value), k ≤ p.length ∧ i = .int .i64 k ∧ GRow w.heap.size wr.heap.size wr r rvs (posTo p k 0) ∧ Ext w wr) (fun _ i _ => p.length - (intOf i).toNat)
  case atStart => exact ⟨0, [], Nat.zero_le _, rfl, by rw [posTo_zero]; exact GRow.nil, Ext.refl w⟩
  case round =>
    obtain ⟨k, rvs, hk, rfl, hg, hx⟩ := hrel
    have HG := Lib.hid hg; clear hg
    by_cases hlt : k < p.length
    · obtain ⟨b, o, ar, cr, rfl, hc0, r1, r2, r3⟩ := G.out.at_ hlt
      have hc := Ext.cell hx hc0
      have hr8 := HR.out k
      have R3 := Lib.hid r3; clear r3
      go_wp2
      go_loopw [3, 17] (fun r i wr => ∃ (l : Nat) (rvs : List Value), l ≤ (rowAt p k).length ∧ i = .int .i64 l ∧ GRow w.heap.size wr.heap.size wr r rvs (posTo p k l) ∧ Ext w wr) (fun _ i _ => (rowAt p k).length - (intOf i).toNat)
      case atStart => exact ⟨0, rvs, Nat.zero_le _, rfl, HG.out, hx⟩
      case round =>
        obtain ⟨l, rvs', hl', rfl, hg', hx'⟩ := hrel
        obtain ⟨wi, rfl⟩ : ∃ wi : World, wi = wr := ⟨_, rfl⟩
        have HG' := Lib.hid hg'; clear hg'
        by_cases hl2 : l < (rowAt p k).length
        · obtain ⟨bx, ox, rfl, hcx0⟩ := R3.out l hl2
          have hcx := Ext.cell hx' hcx0
          by_cases hone : ix (rowAt p k) l = 1
          · have hq1 : (ix (rowAt p k) l == 1) = true := by simp [hone]
            have hpl := posTo_length HR.out k l
            have HY := Lib.hid (posTo_yes hone); clear hone
            have hs := hx'.size
            have E1 := ((Ext.refl wi).alloc (.cells #[.int .i64 k, .int .i64 l] 3)).alloc (.cells #[.slice (some ⟨wi.heap.size, 0, none⟩) 2 2] 22)
            have G1 := Lib.hid (HG'.out.ext E1)
            have hown := G1.out.own
            have HOWN := Lib.hid hown; clear hown
            have bn := (Box.new wi 3 #[.int .i64 k, .int .i64 l] rfl).alloc (.cells #[.slice (some ⟨wi.heap.size, 0, none⟩) 2 2] 22)
            have HBN := Lib.hid bn; clear bn
            obtain ⟨N, hN⟩ : ∃ N, (posTo p k l).length = N := ⟨_, rfl⟩
            rw [hN] at HOWN hpl
            have HN := Lib.hid hN; clear hN
            go_wp2_with (at_builtin; go_loud (refine app1 _ rfl _ _ 23 22 rfl (.slice none 0 0) 24 Try.underlying23 info_ints rfl w.heap.size _ N rvs' rfl HOWN.out (wi.heap.size + 1) 1 22 (.slice (some ⟨wi.heap.size, 0, none⟩) 2 2) rfl (Box.new _ _ _ (by simp)) rfl (by omega) (by omega) (by simp; omega) ?_))
            intro g cp w3 hown3 hgrow hat hlt3
            have hsz3 := hgrow.size
            simp at hsz3
            have gn := G1.out.push (hi' := w3.heap.size) (r := [(k : Int), (l : Int)]) hs (Own.pair HBN.out (Nat.le_refl _) (by omega)) (by omega) hgrow (by rw [HN.out]; exact hown3)
            have hx3 := G1.out.grew (hx'.trans E1) (Nat.le_refl _) hgrow
            have GN := Lib.hid gn; clear gn
            have HX3 := Lib.hid hx3; clear hx3
            clear hgrow hown3
            go_wp2
            go_roundw
            case rel => exact ⟨l + 1, _, by omega, by go_num, by rw [HY.out]; exact GN.out, HX3.out⟩
            case measure => simp [intOf]; omega
          · have hq1 : (ix (rowAt p k) l == 1) = false := by simp [hone]
            have HY := Lib.hid (posTo_no hone); clear hone
            go_wp2
            go_roundw
            case rel => exact ⟨l + 1, rvs', by omega, by go_num, by rw [HY.out]; exact HG'.out, hx'⟩
            case measure => simp [intOf]; omega
        · have HY := Lib.hid (posTo_next (p := p) (k := k) (l := l) (by omega))
          go_wp2
          go_roundw
          case rel => exact ⟨k + 1, rvs', by omega, by go_num, by rw [HY.out]; exact HG'.out, hx'⟩
          case measure => simp [intOf]; omega
    · have hkk : k = p.length := by omega
      have HK := Lib.hid hkk; clear hkk
      go_wp2
      go_ret
      have hgo := HG.out.ownG (Nat.le_refl _) (Nat.le_refl _)
      rw [HK.out] at hgo
      exact ⟨_, rvs, rfl, hgo, hx⟩

set_option maxHeartbeats 3200000 in
theorem covers_b (b : Bool) (v1 v2 : Value) (p q : List (List Int)) (w : World) (hb : coversB p q = b) (h1 : Grid w v1 p) (h2 : Grid w v2 q) (hk : Like p q) :
    Calls Try.prog 83 #[v1, v2] w fun e w' => e = .returned (.bool b) ∧ Ext w w' := by
  subst hb
  have H2 := Lib.hid h2; clear h2
  obtain ⟨a1, c1, rfl, e1, e2, g1⟩ := h1
  have G1 := Lib.hid g1; clear g1
  have q8 := hk.n8
  have HK := Lib.hid hk; clear hk
  have HR : Hid (∀ i, (rowAt q i).length ≤ 8) := Lib.hid (fun i => by
    by_cases hi : i < p.length
    · exact (HK.out.row i hi).2.2
    · rw [rowAt_out (by have := HK.out.len; omega)]; simp)
  go_enter Try.func83, Try.ntmps83
  go_wp2_with fail
  refine (positions_c _ q _ H2.out q8 HR.out).mono ?_
  rintro e w1 ⟨v', rvs, rfl, og, u1⟩
  obtain ⟨ao, cap, rfl, q1, q2, q3⟩ := og
  have GA := Lib.hid q3.grid; clear q3
  go_wp2
  go_loopw [10] (fun i wr => ∃ n : Nat, n ≤ (posOf q).length ∧ i = .int .i64 n ∧ Ext w1 wr ∧ (∀ m, m < n → ∀ i j : Nat, rowAt (posOf q) m = [(i : Int), (j : Int)] → ix (rowAt p i) j ≠ 0)) (fun i _ => (posOf q).length - (intOf i).toNat)
  case atStart => exact ⟨0, Nat.zero_le _, rfl, Ext.refl _, fun m hm => by omega⟩
  case round =>
    obtain ⟨n, hn, rfl, hx, hj⟩ := hrel
    have HJ := Lib.hid hj; clear hj
    obtain ⟨wi, rfl⟩ : ∃ wi : World, wi = wr := ⟨_, rfl⟩
    by_cases hlt : n < (posOf q).length
    · obtain ⟨i, j, er, hi, hjj, h1⟩ := posOf_at hlt
      obtain ⟨b, o, ar, cr, rfl, hc, r1, r2, r3⟩ := (GA.out.ext hx).at_ hlt
      obtain ⟨b0, o0, e0, hc0⟩ := r3 0 (by rw [er]; simp)
      obtain ⟨b1, o1, e1', hc1⟩ := r3 1 (by rw [er]; simp)
      subst e0
      simp only [Option.some.injEq, Addr.mk.injEq, and_true] at e1'
      obtain ⟨rfl, rfl⟩ := e1'
      rw [er] at hc0 hc1 hc r1
      have z0 : ix [(i : Int), (j : Int)] 0 = i := by simp [ix, List.getD]
      have z1 : ix [(i : Int), (j : Int)] 1 = j := by simp [ix, List.getD]
      rw [z0, Nat.add_zero] at hc0
      rw [z1] at hc1
      have hi' : i < p.length := by have := HK.out.len; omega
      have hj' : j < (rowAt p i).length := by have := HK.out.row i hi'; omega
      obtain ⟨b2, o2, ar2, cr2, rfl, hc2, s1, s2, s3⟩ := (G1.out.ext (u1.trans hx)).at_ hi'
      obtain ⟨b3, o3, rfl, hc3⟩ := s3 j hj'
      have HER := Lib.hid er; clear er r3 s3 z0 z1
      have HQ := Lib.hid (And.intro hi (And.intro hjj h1))
      clear hi hjj h1
      by_cases hz : ix (rowAt p i) j = 0
      · have hq0 : (ix (rowAt p i) j == 0) = true := by simp [hz]
        have HB := Lib.hid (coversB_false HQ.out.1 HQ.out.2.1 HQ.out.2.2 hz); clear hz
        go_wp2_with fail
        go_region
        go_wp2
        go_ret
        rw [HB.out]
        exact ⟨rfl, (u1.trans hx).drewN _⟩
      · have hq0 : (ix (rowAt p i) j == 0) = false := by simp [hz]
        have HZ := Lib.hid hz; clear hz
        go_wp2_with fail
        go_region
        go_wp2
        go_roundw
        case rel => exact ⟨n + 1, by omega, by go_num, hx.drewN _, fun m hm i' j' e => by
          by_cases em : m = n
          · subst em
            rw [HER.out] at e
            simp only [List.cons.injEq, Int.natCast_inj, and_true] at e
            rw [← e.1, ← e.2]; exact HZ.out
          · exact HJ.out m (by omega) i' j' e⟩
        case measure => simp [intOf]; omega
    · have hB := coversB_true (p := p) (q := q) (fun i j hi hj h1 => by
        obtain ⟨m, hm, em⟩ := posOf_row hi hj h1
        exact HJ.out m (by omega) i j em)
      have HB := Lib.hid hB; clear hB
      go_wp2
      go_ret
      rw [HB.out]
      exact ⟨rfl, u1.trans hx⟩

set_option maxHeartbeats 3200000 in
theorem vContains_b (b : Bool) (v1 v2 : Value) (p q : List (List Int)) (w : World) (hb : coversB p q = b) (h1 : Grid w v1 p) (h2 : Grid w v2 q) (hk : Like p q) :
    Calls Try.prog 100 #[v1, v2] w fun e w' => e = .returned (.bool b) ∧ w' = w := by
  subst hb
  obtain ⟨a1, c1, rfl, e1, e2, g1⟩ := h1
  have G1 := Lib.hid g1; clear g1
  obtain ⟨a2, c2, rfl, e3, e4, g2⟩ := h2
  have G2 := Lib.hid g2; clear g2
  have HK := Lib.hid hk; clear hk
  go_enter Try.func100, Try.ntmps100
  go_wp2
  go_loop [11] (fun i => ∃ k : Nat, k ≤ q.length ∧ i = .int .i64 k ∧ (∀ i j, i < k → j < (rowAt q i).length → ix (rowAt q i) j = 1 → ix (rowAt p i) j ≠ 0)) (fun i => q.length - (intOf i).toNat)
  case atStart => exact ⟨0, Nat.zero_le _, rfl, fun i j hi => by omega⟩
  case round =>
    obtain ⟨k, hk, rfl, hj⟩ := hrel
    have HJ := Lib.hid hj; clear hj
    by_cases hlt : k < q.length
    · obtain ⟨b, o, ar, cr, rfl, hc, r1, r2, r3⟩ := G2.out.at_ hlt
      have R3 := Lib.hid r3; clear r3
      have hltp : k < p.length := by have := HK.out.len; omega
      obtain ⟨b2, o2, ar2, cr2, rfl, hc2, s1, s2, s3⟩ := G1.out.at_ hltp
      have S3 := Lib.hid s3; clear s3
      go_wp2
      go_loop [18] (fun i => ∃ l : Nat, l ≤ (rowAt q k).length ∧ i = .int .i64 l ∧ (∀ j, j < l → ix (rowAt q k) j = 1 → ix (rowAt p k) j ≠ 0)) (fun i => (rowAt q k).length - (intOf i).toNat)
      case atStart => exact ⟨0, Nat.zero_le _, rfl, fun j hj => by omega⟩
      case round =>
        obtain ⟨l, hl, rfl, hj2⟩ := hrel
        have HJ2 := Lib.hid hj2; clear hj2
        by_cases hl2 : l < (rowAt q k).length
        · obtain ⟨b3, o3, rfl, hc3⟩ := R3.out l hl2
          have hl2p : l < (rowAt p k).length := by have := HK.out.row k hltp; omega
          obtain ⟨b4, o4, rfl, hc4⟩ := S3.out l hl2p
          by_cases hone : ix (rowAt q k) l = 1
          · have hq1 : (ix (rowAt q k) l == 1) = true := by simp [hone]
            by_cases hz : ix (rowAt p k) l = 0
            · have hq0 : (ix (rowAt p k) l == 0) = true := by simp [hz]
              have HB := Lib.hid (coversB_false hlt hl2 hone hz); clear hz hone
              go_wp2
              go_ret
              rw [HB.out]
              exact ⟨rfl, rfl⟩
            · have hq0 : (ix (rowAt p k) l == 0) = false := by simp [hz]
              have HZ := Lib.hid hz; clear hz hone
              go_wp2
              go_round
              case rel => exact ⟨l + 1, by omega, by go_num, fun j hj h1 => by
                by_cases e : j = l
                · subst e; exact HZ.out
                · exact HJ2.out j (by omega) h1⟩
              case measure => simp [intOf]; omega
          · have hq1 : (ix (rowAt q k) l == 1) = false := by simp [hone]
            have HO := Lib.hid hone; clear hone
            go_wp2
            go_round
            case rel => exact ⟨l + 1, by omega, by go_num, fun j hj h1 => by
              by_cases e : j = l
              · subst e; exact absurd h1 HO.out
              · exact HJ2.out j (by omega) h1⟩
            case measure => simp [intOf]; omega
        · go_wp2
          go_round
          case rel => exact ⟨k + 1, by omega, by go_num, fun i j hi hj h1 => by
            by_cases e : i = k
            · subst e; exact HJ2.out j (by omega) h1
            · exact HJ.out i j (by omega) hj h1⟩
          case measure => simp [intOf]; omega
    · have HB := Lib.hid (coversB_true (p := p) (q := q) (fun i j hi hj h1 => HJ.out i j (by omega) hj h1))
      go_wp2
      go_ret
      rw [HB.out]
      exact ⟨rfl, rfl⟩

set_option maxHeartbeats 3200000 in
theorem vAlone_c (v1 v2 : Value) (p q : List (List Int)) (w : World) (h1 : Grid w v1 p) (h2 : Grid w v2 q) (hk : Like p q) (ht : Tame p) :
    Calls Try.prog 81 #[v1, v2] w fun e w' => e = .returned (.bool (aloneB p q)) ∧ Ext w w' := by
  have H1 := Lib.hid h1
  obtain ⟨a1, c1, rfl, e1, e2, g1⟩ := h1
  have G1 := Lib.hid g1; clear g1
  obtain ⟨a2, c2, rfl, e3, e4, g2⟩ := h2
  have G2 := Lib.hid g2; clear g2
  have HT := Lib.hid ht; clear ht
  have HK := Lib.hid hk; clear hk
  go_enter Try.func81, Try.ntmps81
  go_wp2
  go_loopw [11] (fun i wr => ∃ k : Nat, k ≤ q.length ∧ i = .int .i64 k ∧ (∀ i j, i < k → j < (rowAt q i).length → ix (rowAt q i) j = 1 → ¬ ((rowAt p i).sum = 1 ∨ (colOf p j).sum = 1)) ∧ Ext w wr) (fun i _ => q.length - (intOf i).toNat)
  case atStart => exact ⟨0, Nat.zero_le _, rfl, fun i j hi => by omega, Ext.refl w⟩
  case round =>
    obtain ⟨k, hk, rfl, hj, hx⟩ := hrel
    have HJ := Lib.hid hj; clear hj
    by_cases hlt : k < q.length
    · obtain ⟨b, o, ar, cr, rfl, hc0, r1, r2, r3⟩ := G2.out.at_ hlt
      have hc := Ext.cell hx hc0
      have R3 := Lib.hid r3; clear r3
      have hltp : k < p.length := by have := HK.out.len; omega
      obtain ⟨b2, o2, ar2, cr2, rfl, hc20, s1, s2, s3⟩ := G1.out.at_ hltp
      have S3 := Lib.hid s3; clear s3
      go_wp2
      go_loopw [18] (fun i wr => ∃ l : Nat, l ≤ (rowAt q k).length ∧ i = .int .i64 l ∧ (∀ j, j < l → ix (rowAt q k) j = 1 → ¬ ((rowAt p k).sum = 1 ∨ (colOf p j).sum = 1)) ∧ Ext w wr) (fun i _ => (rowAt q k).length - (intOf i).toNat)
      case atStart => exact ⟨0, Nat.zero_le _, rfl, fun j hj => by omega, hx⟩
      case round =>
        obtain ⟨l, hl, rfl, hj2, hx2⟩ := hrel
        have HJ2 := Lib.hid hj2; clear hj2
        obtain ⟨wi, rfl⟩ : ∃ wi : World, wi = wr := ⟨_, rfl⟩
        by_cases hl2 : l < (rowAt q k).length
        · obtain ⟨b3, o3, rfl, hc30⟩ := R3.out l hl2
          have hc3 := Ext.cell hx2 hc30
          have hc2 := Ext.cell hx2 hc20
          have hcols : ∀ i, i < p.length → l < (rowAt p i).length := fun i hi => by
            have a0 := HK.out.eq i hi
            have a1 := HK.out.eq k hltp
            have a2 := HK.out.row k hltp
            omega
          have SC := Lib.hid (sumOk_of (HT.out.col hcols))
          have SR := Lib.hid (sumOk_of (HT.out.row hltp))
          have HC := Lib.hid hcols; clear hcols
          by_cases hone : ix (rowAt q k) l = 1
          · have hq1 : (ix (rowAt q k) l == 1) = true := by simp [hone]
            obtain ⟨RS, hRS⟩ : ∃ S, (rowAt p k).sum = S := ⟨_, rfl⟩
            obtain ⟨CS, hCS⟩ : ∃ S, (colOf p l).sum = S := ⟨_, rfl⟩
            by_cases hz : RS = 1
            · have hq0 : (RS == 1) = true := by simp [hz]
              have HB := Lib.hid (aloneB_true (p := p) (q := q) hlt hl2 hone (.inl (hRS.trans hz))); clear hz hone
              have HRS := Lib.hid hRS; clear hRS
              go_wp2_with fail
              refine (tSum_c _ (rowAt p k) _ (Ints.ext (⟨ar2, cr2, rfl, s1, s2, S3.out⟩ : Ints w _ _) hx2) SR.out).mono ?_
              rw [HRS.out]
              rintro e wi ⟨rfl, rfl⟩
              go_wp2
              go_ret
              rw [HB.out]
              exact ⟨rfl, hx2⟩
            · have hq0 : (RS == 1) = false := by simp [hz]
              have HZ := Lib.hid hz; clear hz
              have HRS := Lib.hid hRS; clear hRS
              have HCS := Lib.hid hCS; clear hCS
              have HO := Lib.hid hone; clear hone
              by_cases hz2 : CS = 1
              · have hq2 : (CS == 1) = true := by simp [hz2]
                have HB := Lib.hid (aloneB_true (p := p) (q := q) hlt hl2 HO.out (.inr (HCS.out.trans hz2))); clear hz2
                go_wp2_with fail
                refine (tSum_c _ (rowAt p k) _ (Ints.ext (⟨ar2, cr2, rfl, s1, s2, S3.out⟩ : Ints w _ _) hx2) SR.out).mono ?_
                rw [HRS.out]
                rintro e wi ⟨rfl, rfl⟩
                go_wp2_with fail
                refine (tColumn_c _ p l _ (H1.out.ext hx2) (by have := HK.out.len; have := HK.out.n8; omega) HC.out).mono ?_
                rintro e w4 ⟨v4, rfl, o4, u4⟩
                go_wp2_with fail
                refine (tSum_c _ (colOf p l) _ o4.ints SC.out).mono ?_
                rw [HCS.out]
                rintro e w4 ⟨rfl, rfl⟩
                go_wp2
                go_ret
                rw [HB.out]
                exact ⟨rfl, hx2.trans u4⟩
              · have hq2 : (CS == 1) = false := by simp [hz2]
                have HZ2 := Lib.hid hz2; clear hz2
                go_wp2_with fail
                refine (tSum_c _ (rowAt p k) _ (Ints.ext (⟨ar2, cr2, rfl, s1, s2, S3.out⟩ : Ints w _ _) hx2) SR.out).mono ?_
                rw [HRS.out]
                rintro e wi ⟨rfl, rfl⟩
                go_wp2_with fail
                refine (tColumn_c _ p l _ (H1.out.ext hx2) (by have := HK.out.len; have := HK.out.n8; omega) HC.out).mono ?_
                rintro e w4 ⟨v4, rfl, o4, u4⟩
                go_wp2_with fail
                refine (tSum_c _ (colOf p l) _ o4.ints SC.out).mono ?_
                rw [HCS.out]
                rintro e w4 ⟨rfl, rfl⟩
                clear o4
                go_wp2
                go_roundw
                case rel => exact ⟨l + 1, by omega, by go_num, fun j hj h1 => by
                  by_cases e : j = l
                  · subst e; rw [HRS.out, HCS.out]; rintro (h | h); exact HZ.out h; exact HZ2.out h
                  · exact HJ2.out j (by omega) h1, hx2.trans u4⟩
                case measure => simp [intOf]; omega
          · have hq1 : (ix (rowAt q k) l == 1) = false := by simp [hone]
            have HO := Lib.hid hone; clear hone
            go_wp2
            go_roundw
            case rel => exact ⟨l + 1, by omega, by go_num, fun j hj h1 => by
              by_cases e : j = l
              · subst e; exact absurd h1 HO.out
              · exact HJ2.out j (by omega) h1, hx2⟩
            case measure => simp [intOf]; omega
        · go_wp2
          go_roundw
          case rel => exact ⟨k + 1, by omega, by go_num, fun i j hi hj h1 => by
            by_cases e : i = k
            · subst e; exact HJ2.out j (by omega) h1
            · exact HJ.out i j (by omega) hj h1, hx2⟩
          case measure => simp [intOf]; omega
    · have HB := Lib.hid (aloneB_false (p := p) (q := q) (fun i j hi hj h1 => HJ.out i j (by omega) hj h1))
      go_wp2
      go_ret
      rw [HB.out]
      exact ⟨rfl, hx⟩
end Go.Proofs.Ytmffhipfodlomaa
