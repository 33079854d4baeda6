/- ThresholdCells, the program's; PublishedTable and JoinPatterns, the spec's and the program's. -/
import Derived.Test.YtmffhipfodlomaaMix
namespace Go.Proofs.Ytmffhipfodlomaa
open Go.RowKit

def pubEl (p : List (List Int)) (i j : Nat) (n : Int) : Int := if ix (rowAt p i) j = 1 then -1 else n
def pub (p x : List (List Int)) : List (List Int) := mapG (pubEl p) x
def pubB (x p : List (List Int)) : Bool := gridB 8 1000 x && patB x p
def pubV (x p : List (List Int)) : List (List Int) := if pubB x p = true then pub p x else []
def joinEl (b : List (List Int)) (i j : Nat) (n : Int) : Int := imax n (ix (rowAt b i) j)
def join (b a : List (List Int)) : List (List Int) := mapG (joinEl b) a
def joinB (a b : List (List Int)) : Bool := gridB 8 1 a && patB a b
def joinV (a b : List (List Int)) : List (List Int) := if joinB a b = true then join b a else []
/-- the two grids' shapes -/
theorem pubB_shape {x p : List (List Int)} (h : pubB x p = true) : gridB 8 1000 x = true ∧ p.length = x.length ∧ x.length ≤ 8 ∧ 1 ≤ x.length ∧ ∀ k, k < x.length → (rowAt x k).length ≤ 8 ∧ 1 ≤ (rowAt x k).length ∧ (rowAt p k).length = (rowAt x k).length := by
  simp only [pubB, patB, Bool.and_eq_true, decide_eq_true_eq] at h
  obtain ⟨h1, h2, h3, h4⟩ := h
  have g1 := gridB_true.1 h1
  have g2 := gridB_true.1 h2
  refine ⟨h1, h3, g1.2.1, g1.1, fun k hk => ?_⟩
  have a1 := (g1.2.2.2.2 k hk).1
  have a2 := (g2.2.2.2.2 k (by omega)).1
  omega
theorem joinB_shape {x p : List (List Int)} (h : joinB x p = true) : gridB 8 1 x = true ∧ gridB 8 1 p = true ∧ p.length = x.length ∧ x.length ≤ 8 ∧ 1 ≤ x.length ∧ ∀ k, k < x.length → (rowAt x k).length ≤ 8 ∧ 1 ≤ (rowAt x k).length ∧ (rowAt p k).length = (rowAt x k).length := by
  simp only [joinB, patB, Bool.and_eq_true, decide_eq_true_eq] at h
  obtain ⟨h1, h2, h3, h4⟩ := h
  have g1 := gridB_true.1 h1
  have g2 := gridB_true.1 h2
  refine ⟨h1, h2, h3, g1.2.1, g1.1, fun k hk => ?_⟩
  have a1 := (g1.2.2.2.2 k hk).1
  have a2 := (g2.2.2.2.2 k (by omega)).1
  omega

set_option maxHeartbeats 3200000 in
theorem implThr_c (v : Value) (xss : List (List Int)) (t : Int) (w : World) (h : Grid w v xss) :
    Calls Try.prog 33 #[v, .int .i64 t] w (RetGrid (fun v' => .tuple #[v', .bool (thrB t xss)]) w (thrV t xss)) := by
  have H := Lib.hid h; clear h
  cases hq : gridB 8 1000 xss
  · have hB : thrB t xss = false := by simp [thrB, hq]
    have hV : thrV t xss = [] := by simp [thrV, hB]
    rw [hV, hB]; clear hV hB
    have HQ := Lib.hid hq; clear hq
    go_enter Try.func33, Try.ntmps33
    go_wp2_with fail
    refine (implIsTwoWay_b false _ xss _ HQ.out H.out).mono ?_
    rintro e w' ⟨rfl, rfl⟩
    go_wp2
    go_ret2
    exact ⟨_, [], rfl, OwnG.nil, Ext.refl _⟩
  by_cases ht0 : t < 0
  · have hB : thrB t xss = false := by simp [thrB, hq]; omega
    have hV : thrV t xss = [] := by simp [thrV, hB]
    rw [hV, hB]; clear hV hB
    have HQ := Lib.hid hq; clear hq
    go_enter Try.func33, Try.ntmps33
    go_wp2_with fail
    refine (implIsTwoWay_b true _ xss _ HQ.out H.out).mono ?_
    rintro e w' ⟨rfl, rfl⟩
    go_wp2
    go_ret2
    exact ⟨_, [], rfl, OwnG.nil, Ext.refl _⟩
  by_cases ht1 : 1001 < t
  · have hB : thrB t xss = false := by simp [thrB, hq]; omega
    have hV : thrV t xss = [] := by simp [thrV, hB]
    rw [hV, hB]; clear hV hB
    have HQ := Lib.hid hq; clear hq
    go_enter Try.func33, Try.ntmps33
    go_wp2_with fail
    refine (implIsTwoWay_b true _ xss _ HQ.out H.out).mono ?_
    rintro e w' ⟨rfl, rfl⟩
    go_wp2
    go_ret2
    exact ⟨_, [], rfl, OwnG.nil, Ext.refl _⟩
  have hB : thrB t xss = true := by simp [thrB, hq]; omega
  have hV : thrV t xss = thr t xss := by simp [thrV, hB]
  rw [hV, hB]; clear hV hB
  have gq := gridB_true.1 hq
  have hl8 : xss.length ≤ 8 := gq.2.1
  have HSH : Hid (xss.length ≤ xss.length ∧ ∀ k, k < xss.length → 1 ≤ (rowAt xss k).length ∧ (rowAt xss k).length ≤ 8) := Lib.hid ⟨Nat.le_refl _, fun k hk => by have := (gq.2.2.2.2 k hk).1; omega⟩
  clear gq
  have HQ := Lib.hid hq; clear hq
  go_enter Try.func33, Try.ntmps33
  go_wp2_with fail
  refine (implIsTwoWay_b true _ xss _ HQ.out H.out).mono ?_
  rintro e w ⟨rfl, rfl⟩
  go_wp2_with fail
  refine (copyMatrix_c _ xss w H.out (by omega) (fun k hk => by have := HSH.out.2 k hk; omega) (fun k hk e => by have := HSH.out.2 k hk; rw [e] at this; simp at this)).mono ?_
  rintro e w1 ⟨v', rvs, rfl, og, WX⟩
  obtain ⟨ao, cap, rfl, q1, q2, q3⟩ := og
  have GA := Lib.hid q3; clear q3
  go_wp2
  go_loopw [26] (fun i wr => ∃ (k : Nat) (zs : List (List Int)), k ≤ xss.length ∧ i = .int .i64 k ∧ OwnGA w.heap.size w1.heap.size wr ao rvs zs ∧ Mix (fun _ _ n => thrEl t n) xss zs k 0 ∧ w1.heap.size ≤ wr.heap.size ∧ Ext w wr) (fun i _ => xss.length - (intOf i).toNat)
  case atStart => exact ⟨0, xss, Nat.zero_le _, rfl, GA.out, Mix.start, Nat.le_refl _, WX⟩
  case round =>
    obtain ⟨k, zs, hk, rfl, hg, hm, hsz, hx⟩ := hrel
    have HM := Lib.hid hm; clear hm
    have HG := Lib.hid hg; clear hg
    by_cases hlt : k < xss.length
    · have hltx := hlt
      have hz : k < zs.length := by rw [HM.out.len]; exact hltx
      obtain ⟨b, o, rfl, lb, lb2, lb3, hc, hf⟩ := HG.out.at_ hz
      obtain ⟨ar, cr, ev, r1, r2⟩ := HG.out.rowForm hz
      rw [HM.out.row k hltx] at ev r1
      rw [ev] at hc
      have EV := Lib.hid ev; clear ev
      have sh := HSH.out.2 k hltx
      have HSK := Lib.hid sh; clear sh

      go_wp2
      go_loopw [32] (fun i wr' => ∃ (l : Nat) (zs' : List (List Int)), l ≤ (rowAt xss k).length ∧ i = .int .i64 l ∧ OwnGA w.heap.size w1.heap.size wr' (some ⟨b, o, none⟩) rvs zs' ∧ Mix (fun _ _ n => thrEl t n) xss zs' k l ∧ w1.heap.size ≤ wr'.heap.size ∧ Ext w wr') (fun i _ => (rowAt xss k).length - (intOf i).toNat)
      case atStart => exact ⟨0, zs, Nat.zero_le _, rfl, HG.out, HM.out, hsz, hx⟩
      case round =>
        obtain ⟨l, zs', hl, rfl, hg', hm', hsz', hx'⟩ := hrel
        obtain ⟨wi, rfl⟩ : ∃ wi : World, wi = wr := ⟨_, rfl⟩
        have HM' := Lib.hid hm'; clear hm'
        have HG' := Lib.hid hg'; clear hg'
        by_cases hl2 : l < (rowAt xss k).length
        · have hl2x := hl2
          have hz' : k < zs'.length := by rw [HM'.out.len]; exact hltx
          have hrl : l < (rowAt zs' k).length := by rw [HM'.out.row k hltx]; exact hl2x
          obtain ⟨b2, o2, rfl, l1, l2, l3, hc2, hf2, st⟩ := HG'.out.store hz' hrl EV.out
          rw [HM'.out.at_ hltx hl2x] at hc2
          have ST := Lib.hid st; clear st
          obtain ⟨b4, o4, e4, _, _, _, hc4, hf4, st4⟩ := (ST.out 0).store (k := k) (l := l) (by simpa using hz') (by rw [rowAt_set, if_pos ⟨rfl, hz'⟩]; simpa using hrl) EV.out
          obtain ⟨rfl, rfl⟩ : b2 = b4 ∧ o2 = o4 := by simpa using e4
          have ST4 := Lib.hid st4; clear st4
          clear hc4
          by_cases hp0 : 0 < ix (rowAt xss k) l
          · by_cases hp1 : ix (rowAt xss k) l < t
            · go_wp2
              go_roundw
              case rel => exact ⟨l + 1, _, by omega, by go_num, by have h5 := ST4.out 1; rw [set_set_el hz'] at h5; exact h5, HM'.out.step hltx hl2x (by simp [thrEl, hp0, hp1]), by simp [World.setCell]; exact hsz', (hx'.setCell _ (by simp; omega)).setCell _ (by simp; omega)⟩
              case measure => simp [intOf]; omega
            · go_wp2
              go_roundw
              case rel => exact ⟨l + 1, _, by omega, by go_num, ST.out 0, HM'.out.step hltx hl2x (by simp [thrEl, hp1]), by simp [World.setCell]; exact hsz', hx'.setCell _ (by simp; omega)⟩
              case measure => simp [intOf]; omega
          · go_wp2
            go_roundw
            case rel => exact ⟨l + 1, _, by omega, by go_num, ST.out 0, HM'.out.step hltx hl2x (by simp [thrEl, hp0]), by simp [World.setCell]; exact hsz', hx'.setCell _ (by simp; omega)⟩
            case measure => simp [intOf]; omega
        · go_wp2
          go_roundw
          case rel => exact ⟨k + 1, zs', by omega, by go_num, HG'.out, HM'.out.next (by have := HSK.out; omega), hsz', hx'⟩
          case measure => simp [intOf]; omega
    · have hkk := HM.out.done (by have := HSH.out.1; omega)
      subst hkk
      go_wp2
      go_ret2
      exact ⟨_, rvs, rfl, ⟨ao, cap, by unfold thr; rw [mapG_length]; rfl, by unfold thr; rw [mapG_length]; exact q1, q2, by unfold thr; exact HG.out.mono (Nat.le_refl _) hsz⟩, hx⟩

theorem areSuppressed_b (b : Bool) (v1 v2 : Value) (x p : List (List Int)) (w : World) (hb : pubB x p = b) (h1 : Grid w v1 x) (h2 : Grid w v2 p) :
    Calls Try.prog 76 #[v1, v2] w fun e w' => e = .returned (.bool b) ∧ w' = w := by
  have H1 := Lib.hid h1; clear h1
  have H2 := Lib.hid h2; clear h2
  cases hx : gridB 8 1000 x
  · simp only [pubB, hx, Bool.false_and] at hb
    subst hb
    have HX := Lib.hid hx; clear hx
    go_enter Try.func76, Try.ntmps76
    go_wp2_with fail
    refine (implIsTwoWay_b false _ x _ HX.out H1.out).mono ?_
    rintro e w' ⟨rfl, rfl⟩
    go_wp2
    go_ret
    exact ⟨rfl, rfl⟩
  · simp only [pubB, hx, Bool.true_and] at hb
    have HX := Lib.hid hx; clear hx
    have HB := Lib.hid hb; clear hb
    go_enter Try.func76, Try.ntmps76
    go_wp2_with fail
    refine (implIsTwoWay_b true _ x _ HX.out H1.out).mono ?_
    rintro e w' ⟨rfl, rfl⟩
    go_wp2_with fail
    refine (isPattern_b b _ _ x p _ HB.out HX.out H1.out H2.out).mono ?_
    rintro e w' ⟨rfl, rfl⟩
    go_wp2
    go_ret
    exact ⟨rfl, rfl⟩

set_option maxHeartbeats 3200000 in
theorem implPub_c (v1 : Value) (x : List (List Int)) (v2 : Value) (p : List (List Int)) (w : World) (h1 : Grid w v1 x) (h2 : Grid w v2 p) :
    Calls Try.prog 35 #[v1, v2] w (RetGrid (fun v' => .tuple #[v', .bool (pubB x p)]) w (pubV x p)) := by
  have H1 := Lib.hid h1; clear h1
  have H2 := Lib.hid h2
  cases hq : pubB x p
  · have hV : pubV x p = [] := by simp [pubV, hq]
    rw [hV]; clear hV
    have HQ := Lib.hid hq; clear hq
    go_enter Try.func35, Try.ntmps35
    go_wp2_with fail
    refine (areSuppressed_b false _ _ x p _ HQ.out H1.out H2.out).mono ?_
    rintro e w' ⟨rfl, rfl⟩
    go_wp2
    go_ret2
    exact ⟨_, [], rfl, OwnG.nil, Ext.refl _⟩
  have hV : pubV x p = mapG (pubEl p) x := by simp [pubV, hq, pub]
  rw [hV]; clear hV
  have sh := pubB_shape hq
  have hl8 : x.length ≤ 8 := sh.2.2.1
  have HSH : Hid (p.length = x.length ∧ ∀ k, k < x.length → (rowAt x k).length ≤ 8 ∧ 1 ≤ (rowAt x k).length ∧ (rowAt p k).length = (rowAt x k).length) := Lib.hid ⟨sh.2.1, sh.2.2.2.2⟩
  clear sh
  have HQ := Lib.hid hq; clear hq
  obtain ⟨ap, cpp, rfl, e1, e2, e3⟩ := h2
  have GP := Lib.hid e3; clear e3
  go_enter Try.func35, Try.ntmps35
  go_wp2_with fail
  refine (areSuppressed_b true _ _ x p _ HQ.out H1.out H2.out).mono ?_
  rintro e w ⟨rfl, rfl⟩
  go_wp2_with fail
  refine (copyMatrix_c _ x w H1.out (by omega) (fun k hk => by have := HSH.out.2 k hk; omega) (fun k hk e => by have := HSH.out.2 k hk; rw [e] at this; simp at this)).mono ?_
  rintro e w1 ⟨v', rvs, rfl, og, WX⟩
  obtain ⟨ao, cap, rfl, q1, q2, q3⟩ := og
  have GA := Lib.hid q3; clear q3
  go_wp2
  go_loopw [19] (fun i wr => ∃ (k : Nat) (zs : List (List Int)), k ≤ p.length ∧ i = .int .i64 k ∧ OwnGA w.heap.size w1.heap.size wr ao rvs zs ∧ Mix (pubEl p) x zs k 0 ∧ w1.heap.size ≤ wr.heap.size ∧ Ext w wr) (fun i _ => p.length - (intOf i).toNat)
  case atStart => exact ⟨0, x, Nat.zero_le _, rfl, GA.out, Mix.start, Nat.le_refl _, WX⟩
  case round =>
    obtain ⟨k, zs, hk, rfl, hg, hm, hsz, hx⟩ := hrel
    have HM := Lib.hid hm; clear hm
    have HG := Lib.hid hg; clear hg
    by_cases hlt : k < p.length
    · have hltx : k < x.length := by have := HSH.out.1; omega
      have hz : k < zs.length := by rw [HM.out.len]; exact hltx
      obtain ⟨b, o, rfl, lb, lb2, lb3, hc, hf⟩ := HG.out.at_ hz
      obtain ⟨ar, cr, ev, r1, r2⟩ := HG.out.rowForm hz
      rw [HM.out.row k hltx] at ev r1
      rw [ev] at hc
      have EV := Lib.hid ev; clear ev
      have sh := HSH.out.2 k hltx
      have HSK := Lib.hid sh; clear sh
      obtain ⟨bp, op, ap2, cp2, rfl, hcp0, p1, p2, p3⟩ := GP.out.at_ hlt
      have hcp := Ext.cell hx hcp0
      have P3 := Lib.hid p3; clear p3

      go_wp2
      go_loopw [26] (fun i wr' => ∃ (l : Nat) (zs' : List (List Int)), l ≤ (rowAt p k).length ∧ i = .int .i64 l ∧ OwnGA w.heap.size w1.heap.size wr' (some ⟨b, o, none⟩) rvs zs' ∧ Mix (pubEl p) x zs' k l ∧ w1.heap.size ≤ wr'.heap.size ∧ Ext w wr') (fun i _ => (rowAt p k).length - (intOf i).toNat)
      case atStart => exact ⟨0, zs, Nat.zero_le _, rfl, HG.out, HM.out, hsz, hx⟩
      case round =>
        obtain ⟨l, zs', hl, rfl, hg', hm', hsz', hx'⟩ := hrel
        obtain ⟨wi, rfl⟩ : ∃ wi : World, wi = wr := ⟨_, rfl⟩
        have HM' := Lib.hid hm'; clear hm'
        have HG' := Lib.hid hg'; clear hg'
        by_cases hl2 : l < (rowAt p k).length
        · have hl2x : l < (rowAt x k).length := by have := HSK.out.2.2; omega
          have hz' : k < zs'.length := by rw [HM'.out.len]; exact hltx
          have hrl : l < (rowAt zs' k).length := by rw [HM'.out.row k hltx]; exact hl2x
          obtain ⟨b2, o2, rfl, l1, l2, l3, hc2, hf2, st⟩ := HG'.out.store hz' hrl EV.out
          rw [HM'.out.at_ hltx hl2x] at hc2
          have ST := Lib.hid st; clear st
          obtain ⟨bq, oq, rfl, hcq0⟩ := P3.out l hl2
          have hcq := Ext.cell hx' hcq0
          obtain ⟨b3, o3, e3, _, _, _, hc3, _⟩ := HG'.out.at_ hz'
          obtain ⟨rfl, rfl⟩ : b = b3 ∧ o = o3 := by simpa using e3
          rw [EV.out] at hc3
          by_cases hone : ix (rowAt p k) l = 1
          · have hq1 : (ix (rowAt p k) l == 1) = true := by simp [hone]
            have HONE := Lib.hid hone; clear hone
            go_wp2
            go_roundw
            case rel => exact ⟨l + 1, _, by omega, by go_num, ST.out (-1), HM'.out.step hltx hl2x (by simp [pubEl, HONE.out]), by simp [World.setCell]; exact hsz', hx'.setCell _ (by simp; omega)⟩
            case measure => simp [intOf]; omega
          · have hq1 : (ix (rowAt p k) l == 1) = false := by simp [hone]
            go_wp2
            go_roundw
            case rel => exact ⟨l + 1, zs', by omega, by go_num, HG'.out, HM'.out.keep hltx hl2x (by simp [pubEl, hone]), hsz', hx'⟩
            case measure => simp [intOf]; omega
        · go_wp2
          go_roundw
          case rel => exact ⟨k + 1, zs', by omega, by go_num, HG'.out, HM'.out.next (by have := HSK.out; omega), hsz', hx'⟩
          case measure => simp [intOf]; omega
    · have hkk := HM.out.done (by have := HSH.out.1; omega)
      subst hkk
      go_wp2
      go_ret2
      exact ⟨_, rvs, rfl, ⟨ao, cap, by rw [mapG_length]; rfl, by rw [mapG_length]; exact q1, q2, HG.out.mono (Nat.le_refl _) hsz⟩, hx⟩

set_option maxHeartbeats 3200000 in
theorem specPub_c (v1 : Value) (x : List (List Int)) (v2 : Value) (p : List (List Int)) (w0 : World) (h1 : Grid w0 v1 x) (h2 : Grid w0 v2 p) :
    Calls Try.prog 34 #[v1, v2] w0 (RetGrid (fun v' => .tuple #[v', .bool (pubB x p)]) w0 (pubV x p)) := by
  have H1 := Lib.hid h1
  have H2 := Lib.hid h2
  cases hq : pubB x p
  · have hV : pubV x p = [] := by simp [pubV, hq]
    rw [hV]; clear hV
    have HQ := Lib.hid hq; clear hq h1 h2
    go_enter Try.func34, Try.ntmps34
    go_wp2_with fail
    refine (qPattern_b false _ _ x p _ HQ.out H1.out H2.out).mono ?_
    rintro e w' ⟨rfl, hd⟩
    go_wp2
    go_ret2
    exact ⟨_, [], rfl, OwnG.nil, hd.ext⟩
  have hV : pubV x p = mapG (pubEl p) x := by simp [pubV, hq, pub]
  rw [hV]; clear hV
  have sh := pubB_shape hq
  have hl8 : x.length ≤ 8 := sh.2.2.1
  have HL : Hid (p.length = x.length) := Lib.hid sh.2.1
  have HSH : Hid (∀ k, k < x.length → (rowAt x k).length ≤ 8 ∧ 1 ≤ (rowAt x k).length ∧ (rowAt p k).length = (rowAt x k).length) := Lib.hid sh.2.2.2.2
  clear sh
  have HQ := Lib.hid hq; clear hq
  obtain ⟨ax, cx, rfl, d1, d2, d3⟩ := h1
  obtain ⟨ap, cpp, rfl, e1, e2, e3⟩ := h2
  have G0 := Lib.hid d3; clear d3
  have GP0 := Lib.hid e3; clear e3
  go_enter Try.func34, Try.ntmps34
  go_wp2_with fail
  refine (qPattern_b true _ _ x p _ HQ.out H1.out H2.out).mono ?_
  rintro e w ⟨rfl, hd⟩
  have WX := hd.ext
  have hs0 := WX.size
  have G := Lib.hid (G0.out.ext WX)
  have GP := Lib.hid (GP0.out.ext WX)
  go_wp2
  go_loopw [6, 18] (fun r i wr => ∃ (k : Nat) (rvs : List Value), k ≤ x.length ∧ i = .int .i64 k ∧ GRow w.heap.size wr.heap.size wr r rvs ((mapG (pubEl p) x).take k) ∧ Ext w wr) (fun _ i _ => x.length - (intOf i).toNat)
  case atStart => exact ⟨0, [], Nat.zero_le _, rfl, GRow.nil, Ext.refl w⟩
  case round =>
    obtain ⟨k, rvs, hk, rfl, hg, hx⟩ := hrel
    obtain ⟨wo, rfl⟩ : ∃ wo : World, wo = wr := ⟨_, rfl⟩
    have HG := Lib.hid hg; clear hg
    by_cases hlt : k < x.length
    · obtain ⟨b, o, ar, cr, rfl, hc, r1, r2, r3⟩ := (G.out.ext hx).at_ hlt
      have R3 := Lib.hid r3; clear r3
      have hs := hx.size
      have hr8 := HSH.out k hlt
      have hltp : k < p.length := by have := HL.out; omega
      have HRK : Hid ((rowAt p k).length = (rowAt x k).length) := Lib.hid hr8.2.2
      obtain ⟨hr8, _, hrx⟩ := hr8
      clear hrx
      obtain ⟨bp, op, ap2, cp2, rfl, hcp0, p1, p2, p3⟩ := (GP.out.ext hx).at_ hltp
      have P3 := Lib.hid p3; clear p3
      go_wp2
      go_loopw [9, 25] (fun r i wr => ∃ l : Nat, l ≤ (rowAt x k).length ∧ i = .int .i64 l ∧ IRow wo.heap.size wr r ((rowF (pubEl p) x k).take l) ∧ Ext wo wr) (fun _ i _ => (rowAt x k).length - (intOf i).toNat)
      case atStart => exact ⟨0, Nat.zero_le _, rfl, by simpa using IRow.nil, Ext.refl wo⟩
      case round =>
        obtain ⟨l, hl, rfl, hp, hxi⟩ := hrel
        obtain ⟨wi, rfl⟩ : ∃ wi : World, wi = wr := ⟨_, rfl⟩
        have hsi := hxi.size
        have HP := Lib.hid hp
        by_cases hl2 : l < (rowAt x k).length
        · obtain ⟨bx, ox, rfl, hcx⟩ := R3.out l hl2
          have ecx := Ext.cell hxi hcx
          have htl : ((rowF (pubEl p) x k).take l).length = l := by simp [rowF_length]; omega
          have hown := hp
          unfold IRow at hown
          rw [htl] at hown
          have HOWN := Lib.hid hown; clear hown hp
          have HTL := Lib.hid htl; clear htl
          have hl2p : l < (rowAt p k).length := by have := HRK.out; omega
          obtain ⟨bq, oq, rfl, hcq0⟩ := P3.out l hl2p
          have hcq := Ext.cell hxi hcq0
          have hcp := Ext.cell hxi hcp0
          by_cases hone : ix (rowAt p k) l = 1
          · have hq1 : (ix (rowAt p k) l == 1) = true := by simp [hone]
            have HEL : Hid (pubEl p k l (ix (rowAt x k) l) = -1) := Lib.hid (by simp [pubEl, hone])
            clear hone
            go_wp2_with (at_builtin; go_loud (refine app1 _ rfl _ _ 22 3 rfl (.int .i64 0) 8 Try.underlying22 info_int rfl wo.heap.size _ l _ rfl (HOWN.out.kept (row := none) ⟨((Ext.refl _).alloc _).os, ((Ext.refl _).alloc _).tape, ((Ext.refl _).alloc _).output, ((Ext.refl _).alloc _).size, fun k hk _ => ((Ext.refl _).alloc _).block hk⟩ (by cases (Value.ownBlock _) <;> simp)) wi.heap.size 1 3 (.int .i64 (-1)) rfl (Box.new _ _ _ rfl) rfl (by omega) (by omega) (by simp; omega) ?_))
            intro g cp w3 hown3 hgrow hat hlt3
            have h3 := HP.out.ext ((Ext.refl _).alloc (.cells #[.int .i64 (-1)] 3))
            have hx3 := h3.grew (hxi.alloc _) (by omega) hgrow
            have HO3 := Lib.hid hown3; clear hown3
            have HX3 := Lib.hid hx3; clear hx3
            clear hgrow
            go_wp2
            go_roundw
            case rel => exact ⟨l + 1, by omega, by go_num, by
              rw [rowF_take_succ hl2, HEL.out]
              exact IRow.push (by rw [HTL.out, List.map_take]; exact HO3.out), HX3.out⟩
            case measure => simp [intOf]; omega
          · have hq1 : (ix (rowAt p k) l == 1) = false := by simp [hone]
            have HEL : Hid (pubEl p k l (ix (rowAt x k) l) = ix (rowAt x k) l) := Lib.hid (by simp [pubEl, hone])
            clear hone
            go_wp2_with (at_builtin; go_loud (refine app1 _ rfl _ _ 22 3 rfl (.int .i64 0) 8 Try.underlying22 info_int rfl wo.heap.size _ l _ rfl (HOWN.out.kept (row := none) ⟨((Ext.refl _).alloc _).os, ((Ext.refl _).alloc _).tape, ((Ext.refl _).alloc _).output, ((Ext.refl _).alloc _).size, fun k hk _ => ((Ext.refl _).alloc _).block hk⟩ (by cases (Value.ownBlock _) <;> simp)) wi.heap.size 1 3 (.int .i64 (ix (rowAt x k) l)) rfl (Box.new _ _ _ rfl) rfl (by omega) (by omega) (by simp; omega) ?_))
            intro g cp w3 hown3 hgrow hat hlt3
            have h3 := HP.out.ext ((Ext.refl _).alloc (.cells #[.int .i64 (ix (rowAt x k) l)] 3))
            have hx3 := h3.grew (hxi.alloc _) (by omega) hgrow
            have HO3 := Lib.hid hown3; clear hown3
            have HX3 := Lib.hid hx3; clear hx3
            clear hgrow
            go_wp2
            go_roundw
            case rel => exact ⟨l + 1, by omega, by go_num, by
              rw [rowF_take_succ hl2, HEL.out]
              exact IRow.push (by rw [HTL.out, List.map_take]; exact HO3.out), HX3.out⟩
            case measure => simp [intOf]; omega
        · have hfull : (rowF (pubEl p) x k).take l = rowF (pubEl p) x k := List.take_of_length_le (by rw [rowF_length]; omega)
          rw [hfull] at hp
          clear HP hfull
          have O1 := Lib.hid (hp.own (Nat.le_refl _))
          obtain ⟨ap, cp0, rfl⟩ := hp.form
          clear hp
          have htk : ((mapG (pubEl p) x).take k).length = k := by simp [mapG_length]; omega
          have HTK := Lib.hid htk; clear htk
          have G1 := Lib.hid (HG.out.ext hxi)
          have hown := (G1.out.ext ((Ext.refl wi).alloc (.cells #[.slice ap (rowF (pubEl p) x k).length cp0] 22))).own
          rw [HTK.out] at hown
          have HOWN := Lib.hid hown; clear hown
          go_wp2_with (at_builtin; go_loud (refine app1 _ rfl _ _ 23 22 rfl (.slice none 0 0) 24 Try.underlying23 info_ints rfl w.heap.size _ k rvs rfl HOWN.out wi.heap.size 1 22 (.slice ap (rowF (pubEl p) x k).length cp0) rfl (Box.new _ _ _ rfl) rfl (by omega) (by omega) (by simp; omega) ?_))
          intro g cp w3 hown3 hgrow hat hlt3
          have e1 : Ext wi (wi.alloc (.cells #[.slice ap (rowF (pubEl p) x k).length cp0] 22)) := (Ext.refl wi).alloc _
          have gn := (G1.out.ext e1).push (hi' := w3.heap.size) (r := rowF (pubEl p) x k) hx.size
            ((O1.out.ext e1).mono (Nat.le_refl _) (by have := hgrow.size; simp at this; omega)) (by have := hgrow.size; simp at this; omega) hgrow (by rw [HTK.out]; exact hown3)
          have hx3 := (G1.out.ext e1).grew ((hx.trans hxi).trans e1) (Nat.le_refl _) hgrow
          have GN := Lib.hid gn; clear gn
          have HX3 := Lib.hid hx3; clear hx3
          clear hgrow hown3
          go_wp2
          go_roundw
          case rel => exact ⟨k + 1, _, by omega, by go_num, by rw [mapG_take_succ hlt]; exact GN.out, HX3.out⟩
          case measure => simp [intOf]; omega
    · have hkk : (mapG (pubEl p) x).take k = mapG (pubEl p) x := List.take_of_length_le (by rw [mapG_length]; omega)
      rw [hkk] at HG
      go_wp2
      go_ret2
      exact ⟨_, rvs, rfl, (HG.out.ownG (Nat.le_refl _) (Nat.le_refl _)).mono WX.size (Nat.le_refl _), WX.trans hx⟩
end Go.Proofs.Ytmffhipfodlomaa
