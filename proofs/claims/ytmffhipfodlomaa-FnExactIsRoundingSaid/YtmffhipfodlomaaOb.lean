/- OriginalBounds, the spec's and the program's. -/
import Derived.Test.YtmffhipfodlomaaMat
import Derived.Test.YtmffhipfodlomaaMix
import Derived.Deep.RegionHeld3
import Derived.OwnWalk
namespace Go.Proofs.Ytmffhipfodlomaa
open Go.RowKit

namespace OwnGA
variable {lo hi : Nat} {S : Nat → Prop} {w w' : World} {ao : Option Addr} {rvs : List Value} {zs : List (List Int)}
theorem away (h : OwnGA lo hi w ao rvs zs) (u : Upd S w w') (hs : ∀ b, S b → b < lo ∨ hi ≤ b) : OwnGA lo hi w' ao rvs zs :=
  h.upd u (fun hx s => by have := hs _ s; have := h.range hx; omega) (fun k hk hr s => by have := hs _ s; have := (h.row k hk).range hr; omega)
theorem put_away (h : OwnGA lo hi w ao rvs zs) (a : Addr) (x : Value) (ha : a.block < lo ∨ hi ≤ a.block) : OwnGA lo hi (w.setCell a x) ao rvs zs :=
  h.away (S := fun b => b = a.block) ((Upd.refl w).setCell x (fun _ => rfl)) (fun b hb => by subst hb; exact ha)
end OwnGA

def obLo (base : Int) (_ _ : Nat) (n : Int) : Int := imax 0 (n - base + 1)
def obHi (base : Int) (_ _ : Nat) (n : Int) : Int := n + base - 1
def MultUpTo (base : Int) (y : List (List Int)) (k l : Nat) : Prop := ∀ i j, i < y.length → j < (rowAt y i).length → (i < k ∨ (i = k ∧ j < l)) → ix (rowAt y i) j % base = 0
open Classical in
noncomputable def obB (y : List (List Int)) (base : Int) : Bool := gridB 7 10000 y && (decide (2 ≤ base) && decide (base ≤ 100)) && decide (MultUpTo base y y.length 0)
noncomputable def obL (y : List (List Int)) (base : Int) : List (List Int) := if obB y base = true then mapG (obLo base) y else []
noncomputable def obH (y : List (List Int)) (base : Int) : List (List Int) := if obB y base = true then mapG (obHi base) y else []
theorem obB_not {y : List (List Int)} {base : Int} {k l : Nat} (hk : k < y.length) (hl : l < (rowAt y k).length) (h : ix (rowAt y k) l % base ≠ 0) : obB y base = false := by
  have : ¬ MultUpTo base y y.length 0 := fun hh => h (hh k l hk hl (.inl hk))
  simp [obB, this]
theorem obB_yes {y : List (List Int)} {base : Int} {k : Nat} (h1 : gridB 7 10000 y = true) (h2 : (decide (2 ≤ base) && decide (base ≤ 100)) = true) (h : MultUpTo base y k 0) (hk : y.length ≤ k) : obB y base = true := by
  have : MultUpTo base y y.length 0 := fun i j hi hj _ => h i j hi hj (.inl (by omega))
  unfold obB; rw [h1, h2]; simp [this]
theorem mult_step {base : Int} {y : List (List Int)} {k l : Nat} (h : MultUpTo base y k l) (hn : ix (rowAt y k) l % base = 0) : MultUpTo base y k (l + 1) := fun i j hi hj hh => by
  by_cases e : i = k ∧ j = l
  · obtain ⟨rfl, rfl⟩ := e; exact hn
  · exact h i j hi hj (by omega)
theorem mult_next {base : Int} {y : List (List Int)} {k l : Nat} (h : MultUpTo base y k l) (hl : (rowAt y k).length ≤ l) : MultUpTo base y (k + 1) 0 := fun i j hi hj hh => by
  by_cases e : i = k
  · subst e; exact h i j hi hj (by omega)
  · exact h i j hi hj (by omega)
/-- what a call that hands back two fresh grids leaves -/
def RetGrids (mk : Value → Value → Value) (w : World) (xs ys : List (List Int)) (e : Ending) (w' : World) : Prop :=
  ∃ v1 r1 v2 r2 mid, e = .returned (mk v1 v2) ∧ w.heap.size ≤ mid ∧ mid ≤ w'.heap.size ∧ OwnG w.heap.size mid w' v1 r1 xs ∧ OwnG mid w'.heap.size w' v2 r2 ys ∧ Ext w w'

theorem oGood_b (b : Bool) (v : Value) (y : List (List Int)) (base : Int) (w : World) (hb : (gridB 7 10000 y && (decide (2 ≤ base) && decide (base ≤ 100))) = b) (h : Grid w v y) :
    Calls Try.prog 77 #[v, .int .i64 base] w fun e w' => e = .returned (.bool b) ∧ w' = w := by
  have H := Lib.hid h; clear h
  cases hd : (decide (2 ≤ base) && decide (base ≤ 100))
  · rw [hd, Bool.and_false] at hb
    subst hb
    have HD := Lib.hid hd; clear hd
    go_enter Try.func77, Try.ntmps77
    go_wp2_with fail
    refine (l1In_b false base 2 100 _ HD.out).mono ?_
    rintro e w' ⟨rfl, rfl⟩
    go_wp2
    go_ret
    exact ⟨rfl, rfl⟩
  · rw [hd, Bool.and_true] at hb
    have HB := Lib.hid hb; clear hb
    have HD := Lib.hid hd; clear hd
    go_enter Try.func77, Try.ntmps77
    go_wp2_with fail
    refine (l1In_b true base 2 100 _ HD.out).mono ?_
    rintro e w' ⟨rfl, rfl⟩
    go_wp2_with fail
    refine (oMatrix_b b _ y _ HB.out H.out).mono ?_
    rintro e w' ⟨rfl, rfl⟩
    go_wp2
    go_ret
    exact ⟨rfl, rfl⟩
theorem isBaseOf_b (b : Bool) (base : Int) (w : World) (hb : (decide (2 ≤ base) && decide (base ≤ 100)) = b) :
    Calls Try.prog 79 #[.int .i64 base] w fun e w' => e = .returned (.bool b) ∧ w' = w := by
  subst hb
  by_cases h1 : 2 ≤ base
  · by_cases h2 : base ≤ 100
    · have d : (decide (2 ≤ base) && decide (base ≤ 100)) = true := by simp [h1, h2]
      rw [d]; clear d
      go_enter Try.func79, Try.ntmps79
      go_wp2
      go_ret
      exact ⟨rfl, rfl⟩
    · have d : (decide (2 ≤ base) && decide (base ≤ 100)) = false := by simp [h2]
      rw [d]; clear d
      go_enter Try.func79, Try.ntmps79
      go_wp2
      go_ret
      exact ⟨rfl, rfl⟩
  · have d : (decide (2 ≤ base) && decide (base ≤ 100)) = false := by simp [h1]
    rw [d]; clear d
    go_enter Try.func79, Try.ntmps79
    go_wp2
    go_ret
    exact ⟨rfl, rfl⟩

set_option maxHeartbeats 6400000 in
theorem specOb_c (v : Value) (y : List (List Int)) (base : Int) (w : World) (h : Grid w v y) :
    Calls Try.prog 36 #[v, .int .i64 base] w (RetGrids (fun v1 v2 => .tuple #[v1, v2, .bool (obB y base)]) w (obL y base) (obH y base)) := by
  have H := Lib.hid h
  obtain ⟨ay, cy, rfl, hy1, hy2, hy3⟩ := h
  have GY := Lib.hid hy3; clear hy3
  have nothing : ∀ w', Ext w w' → obB y base = false → RetGrids (fun v1 v2 => .tuple #[v1, v2, .bool (obB y base)]) w (obL y base) (obH y base) (.returned (.tuple #[.slice none 0 0, .slice none 0 0, .bool false])) w' := fun w' u hB => by
    have hL : obL y base = [] := by simp [obL, hB]
    have hH : obH y base = [] := by simp [obH, hB]
    rw [hL, hH, hB]
    exact ⟨_, [], _, [], _, rfl, Nat.le_refl _, u.size, OwnG.nil, OwnG.nil, u⟩
  have NO := Lib.hid nothing; clear nothing
  cases hgd : (gridB 7 10000 y && (decide (2 ≤ base) && decide (base ≤ 100)))
  · have hB : obB y base = false := by simp only [obB, hgd, Bool.false_and]
    have HB := Lib.hid hB; clear hB
    have HGD := Lib.hid hgd; clear hgd
    go_enter Try.func36, Try.ntmps36
    go_wp2_with fail
    refine (oGood_b false _ y base _ HGD.out H.out).mono ?_
    rintro e w ⟨rfl, rfl⟩
    go_wp2
    go_ret3
    exact NO.out _ (Ext.refl _) HB.out
  obtain ⟨hx, hd⟩ : gridB 7 10000 y = true ∧ (decide (2 ≤ base) && decide (base ≤ 100)) = true := by simpa only [Bool.and_eq_true] using hgd
  have HGD := Lib.hid hgd; clear hgd
  have gy := gridB_true.1 hx
  have hy8 : y.length ≤ 7 := gy.2.1
  have HSH : Hid (∀ k, k < y.length → 1 ≤ (rowAt y k).length ∧ (rowAt y k).length ≤ 7) := Lib.hid (fun k hk => by have := (gy.2.2.2.2 k hk).1; omega)
  clear gy
  have hb2 : 2 ≤ base ∧ base ≤ 100 := by simpa using hd
  have HX := Lib.hid hx; clear hx
  have HD := Lib.hid hd; clear hd
  go_enter Try.func36, Try.ntmps36
  go_wp2_with fail
  refine (oGood_b true _ y base _ HGD.out H.out).mono ?_
  rintro e w ⟨rfl, rfl⟩
  go_wp2_with fail
  refine (tOwn_c _ y w H.out (by omega) (fun k hk => by have := HSH.out k hk; omega) (fun k hk e => by have := HSH.out k hk; rw [e] at this; simp at this)).mono ?_
  rintro e w1 ⟨v1, r1, rfl, og1, u1⟩
  obtain ⟨a1, c1, rfl, q1, q2, q3⟩ := og1
  have GA1 := Lib.hid q3; clear q3
  go_wp2_with fail
  refine (tOwn_c _ y w1 (H.out.ext u1) (by omega) (fun k hk => by have := HSH.out k hk; omega) (fun k hk e => by have := HSH.out k hk; rw [e] at this; simp at this)).mono ?_
  rintro e w2 ⟨v2, r2, rfl, og2, u2⟩
  obtain ⟨a2, c2, rfl, p1, p2, p3⟩ := og2
  have GA2 := Lib.hid p3; clear p3
  have z1 := u1.size
  have z2 := u2.size
  have GA1' := Lib.hid (GA1.out.ext u2)
  go_wp2
  go_loopw [23] (fun i wr => ∃ (k : Nat) (zs ys : List (List Int)), k ≤ y.length ∧ i = .int .i64 k ∧ OwnGA w.heap.size w1.heap.size wr a1 r1 zs ∧ Mix (obLo base) y zs k 0 ∧ OwnGA w1.heap.size w2.heap.size wr a2 r2 ys ∧ Mix (obHi base) y ys k 0 ∧ MultUpTo base y k 0 ∧ w2.heap.size ≤ wr.heap.size ∧ Ext w wr) (fun i _ => y.length - (intOf i).toNat)
  case atStart => exact ⟨0, y, y, Nat.zero_le _, rfl, GA1'.out, Mix.start, GA2.out, Mix.start, fun i j _ _ hh => by omega, Nat.le_refl _, u1.trans u2⟩
  case round =>
    obtain ⟨k, zs, ys, hk, rfl, hg1, hm1, hg2, hm2, hmu, hsz, hx⟩ := hrel
    have HMU := Lib.hid hmu; clear hmu
    have HM1 := Lib.hid hm1; clear hm1
    have HM2 := Lib.hid hm2; clear hm2
    have HG1 := Lib.hid hg1; clear hg1
    have HG2 := Lib.hid hg2; clear hg2
    by_cases hlt : k < y.length
    · obtain ⟨bp, op, ap2, cp2, rfl, hcp0, s1, s2, s3⟩ := GY.out.at_ hlt
      have hcp := Ext.cell hx hcp0
      have P3 := Lib.hid s3; clear s3
      have hz1 : k < zs.length := by rw [HM1.out.len]; exact hlt
      have hz2 : k < ys.length := by rw [HM2.out.len]; exact hlt
      obtain ⟨b1, o1, rfl, _⟩ := HG1.out.at_ hz1
      obtain ⟨b2, o2, rfl, _⟩ := HG2.out.at_ hz2
      obtain ⟨ar1, cr1, ev1, n1, n1'⟩ := HG1.out.rowForm hz1
      obtain ⟨ar2, cr2, ev2, n2, n2'⟩ := HG2.out.rowForm hz2
      rw [HM1.out.row k hlt] at ev1 n1
      rw [HM2.out.row k hlt] at ev2 n2
      have EV1 := Lib.hid ev1; clear ev1
      have EV2 := Lib.hid ev2; clear ev2
      have hl7 := HSH.out k hlt
      go_wp2
      go_loopw [30] (fun i wr' => ∃ (l : Nat) (zs' ys' : List (List Int)), l ≤ (rowAt y k).length ∧ i = .int .i64 l ∧ OwnGA w.heap.size w1.heap.size wr' (some ⟨b1, o1, none⟩) r1 zs' ∧ Mix (obLo base) y zs' k l ∧ OwnGA w1.heap.size w2.heap.size wr' (some ⟨b2, o2, none⟩) r2 ys' ∧ Mix (obHi base) y ys' k l ∧ MultUpTo base y k l ∧ w2.heap.size ≤ wr'.heap.size ∧ Ext w wr') (fun i _ => (rowAt y k).length - (intOf i).toNat)
      case atStart => exact ⟨0, zs, ys, Nat.zero_le _, rfl, HG1.out, HM1.out, HG2.out, HM2.out, HMU.out, hsz, hx⟩
      case round =>
        obtain ⟨l, zs', ys', hl, rfl, hg1', hm1', hg2', hm2', hmu', hsz', hx'⟩ := hrel
        obtain ⟨wi, rfl⟩ : ∃ wi : World, wi = wr := ⟨_, rfl⟩
        have HMU' := Lib.hid hmu'; clear hmu'
        have HM1' := Lib.hid hm1'; clear hm1'
        have HM2' := Lib.hid hm2'; clear hm2'
        have HG1' := Lib.hid hg1'; clear hg1'
        have HG2' := Lib.hid hg2'; clear hg2'
        by_cases hl2 : l < (rowAt y k).length
        · obtain ⟨bq, oq, rfl, hcq0⟩ := P3.out l hl2
          have hcq := Ext.cell hx' hcq0
          have hel := gridB_elem HX.out hlt hl2
          have hz1' : k < zs'.length := by rw [HM1'.out.len]; exact hlt
          have hz2' : k < ys'.length := by rw [HM2'.out.len]; exact hlt
          have hr1 : l < (rowAt zs' k).length := by rw [HM1'.out.row k hlt]; exact hl2
          have hr2 : l < (rowAt ys' k).length := by rw [HM2'.out.row k hlt]; exact hl2
          obtain ⟨t, ht⟩ : ∃ t, ix (rowAt y k) l % base = t := ⟨_, rfl⟩
          have hb0 : (base == 0) = false := beq_false_of_ne (by omega)
          by_cases hmod : ix (rowAt y k) l % base = 0
          case neg =>
            have hq0 : (ix (rowAt y k) l % base != 0) = true := by simp [hmod]
            have HB := Lib.hid (obB_not hlt hl2 hmod)
            clear hmod ht
            go_wp2
            go_ret3
            exact NO.out _ hx' HB.out
          have hq0 : (ix (rowAt y k) l % base != 0) = false := by simp [hmod]
          have HMD := Lib.hid hmod; clear hmod ht
          obtain ⟨b3, o3, e3, lb3, lb3', _, hc3, hf3⟩ := HG1'.out.at_ hz1'
          obtain ⟨rfl, rfl⟩ : b1 = b3 ∧ o1 = o3 := by simpa using e3
          rw [EV1.out] at hc3
          obtain ⟨b4, o4, rfl, lb4, lb4', lt4, hc4, hf4, st1⟩ := HG1'.out.store hz1' hr1 EV1.out
          have ST1 := Lib.hid st1; clear st1 hc4
          have hc4 := (HG1'.out.store (l := l) hz1' hr1 EV1.out)
          have hap := HG1'.out.apart hz1' (by intro e; rw [e] at hr1; simp at hr1)
          rw [EV1.out] at hap
          simp only [blk, ablk] at hap
          have G2A := Lib.hid (HG2'.out.put_away ⟨b4, o4 + l, none⟩ (.int .i64 (obLo base k l (ix (rowAt y k) l))) (.inl (by simp only; omega)))
          obtain ⟨b5, o5, e5, lb5, lb5', _, hc5, hf5⟩ := G2A.out.at_ hz2'
          obtain ⟨rfl, rfl⟩ : b2 = b5 ∧ o2 = o5 := by simpa using e5
          rw [EV2.out] at hc5
          obtain ⟨b6, o6, rfl, lb6, lb6', lt6, hc6, hf6, st2⟩ := G2A.out.store hz2' hr2 EV2.out
          have ST2 := Lib.hid st2; clear st2
          obtain ⟨_, _, e7, _, _, _, hc7, _, _⟩ := hc4
          simp only [Option.some.injEq, Addr.mk.injEq, and_true] at e7
          obtain ⟨rfl, rfl⟩ := e7
          obtain ⟨L, hL⟩ : ∃ L, obLo base k l (ix (rowAt y k) l) = L := ⟨_, rfl⟩
          have hLL : imax 0 (ix (rowAt y k) l - base + 1) = L := hL
          have hmx : (if 0 < ix (rowAt y k) l - base + 1 then ix (rowAt y k) l - base + 1 else 0) = L := by rw [← hLL]; unfold imax; split <;> omega
          rw [hL] at hc5 hf5 hc6 hf6 G2A ST2
          have HLL := Lib.hid hLL; clear hLL
          have HL := Lib.hid hL; clear hL
          have HE := Lib.hid (show obHi base k l (ix (rowAt y k) l) = ix (rowAt y k) l + base - 1 from rfl)
          clear hmx
          have HW := Lib.hid (show IntKind.i64.wrap (IntKind.i64.wrap (ix (rowAt y k) l - base) + 1) = ix (rowAt y k) l - base + 1 by rw [IntWalk.i64_in (ix (rowAt y k) l - base) (by omega), IntWalk.i64_in _ (by omega)])
          go_wp2_with fail
          go_region_with ((go_at_call 63; refine (l1Most_c _ _ _).mono ?_; rw [HW.out, HLL.out]; rintro e w' ⟨rfl, rfl⟩))
          all_goals
            go_wp2
            go_roundw
            case rel => exact ⟨l + 1, _, _, by omega, by go_num, ((ST1.out L).put_away _ _ (.inr (by simp only; omega))).ext ((Ext.refl _).drew), HM1'.out.step hlt hl2 HL.out.symm, (ST2.out _).ext ((Ext.refl _).drew), HM2'.out.step hlt hl2 HE.out.symm, mult_step HMU'.out HMD.out, by simp [World.setCell]; exact hsz', ((hx'.setCell _ (by simp; omega)).setCell _ (by simp; omega)).drew⟩
            case measure => simp [intOf]; omega
        · go_wp2
          go_roundw
          case rel => exact ⟨k + 1, zs', ys', by omega, by go_num, HG1'.out, HM1'.out.next (by omega), HG2'.out, HM2'.out.next (by omega), mult_next HMU'.out (by omega), hsz', hx'⟩
          case measure => simp [intOf]; omega
    · have hB := obB_yes HX.out HD.out HMU.out (by omega)
      have HB := Lib.hid hB; clear hB
      have hk1 := HM1.out.done (by omega)
      have hk2 := HM2.out.done (by omega)
      subst hk1; subst hk2
      go_wp2
      go_ret3
      have hL : obL y base = mapG (obLo base) y := by simp [obL, HB.out]
      have hH : obH y base = mapG (obHi base) y := by simp [obH, HB.out]
      rw [hL, hH, HB.out]
      exact ⟨_, r1, _, r2, w1.heap.size, rfl, z1, Nat.le_trans z2 hsz, ⟨a1, c1, by rw [mapG_length]; rfl, by rw [mapG_length]; exact q1, q2, HG1.out⟩, ⟨a2, c2, by rw [mapG_length]; rfl, by rw [mapG_length]; exact p1, p2, HG2.out.mono (Nat.le_refl _) hsz⟩, hx⟩
set_option maxHeartbeats 6400000 in
theorem implOb_c (v : Value) (y : List (List Int)) (base : Int) (w : World) (h : Grid w v y) :
    Calls Try.prog 37 #[v, .int .i64 base] w (RetGrids (fun v1 v2 => .tuple #[v1, v2, .bool (obB y base)]) w (obL y base) (obH y base)) := by
  have H := Lib.hid h
  obtain ⟨ay, cy, rfl, hy1, hy2, hy3⟩ := h
  have GY := Lib.hid hy3; clear hy3
  have nothing : ∀ w', Ext w w' → obB y base = false → RetGrids (fun v1 v2 => .tuple #[v1, v2, .bool (obB y base)]) w (obL y base) (obH y base) (.returned (.tuple #[.slice none 0 0, .slice none 0 0, .bool false])) w' := fun w' u hB => by
    have hL : obL y base = [] := by simp [obL, hB]
    have hH : obH y base = [] := by simp [obH, hB]
    rw [hL, hH, hB]
    exact ⟨_, [], _, [], _, rfl, Nat.le_refl _, u.size, OwnG.nil, OwnG.nil, u⟩
  have NO := Lib.hid nothing; clear nothing
  cases hx : gridB 7 10000 y
  · have hB : obB y base = false := by simp only [obB, hx, Bool.false_and]
    have HB := Lib.hid hB; clear hB
    have HX := Lib.hid hx; clear hx
    go_enter Try.func37, Try.ntmps37
    go_wp2_with fail
    refine (isMatrix_b false _ y _ HX.out H.out).mono ?_
    rintro e w ⟨rfl, rfl⟩
    go_wp2
    go_ret3
    exact NO.out _ (Ext.refl _) HB.out
  cases hd : (decide (2 ≤ base) && decide (base ≤ 100))
  · have hB : obB y base = false := by simp only [obB, hd, Bool.and_false, Bool.false_and]
    have HB := Lib.hid hB; clear hB
    have HX := Lib.hid hx; clear hx
    have HD := Lib.hid hd; clear hd
    go_enter Try.func37, Try.ntmps37
    go_wp2_with fail
    refine (isMatrix_b true _ y _ HX.out H.out).mono ?_
    rintro e w ⟨rfl, rfl⟩
    go_wp2_with fail
    refine (isBaseOf_b false base _ HD.out).mono ?_
    rintro e w ⟨rfl, rfl⟩
    go_wp2
    go_ret3
    exact NO.out _ (Ext.refl _) HB.out
  have gy := gridB_true.1 hx
  have hy8 : y.length ≤ 7 := gy.2.1
  have HSH : Hid (∀ k, k < y.length → 1 ≤ (rowAt y k).length ∧ (rowAt y k).length ≤ 7) := Lib.hid (fun k hk => by have := (gy.2.2.2.2 k hk).1; omega)
  clear gy
  have hb2 : 2 ≤ base ∧ base ≤ 100 := by simpa using hd
  have HX := Lib.hid hx; clear hx
  have HD := Lib.hid hd; clear hd
  go_enter Try.func37, Try.ntmps37
  go_wp2_with fail
  refine (isMatrix_b true _ y _ HX.out H.out).mono ?_
  rintro e w ⟨rfl, rfl⟩
  go_wp2_with fail
  refine (isBaseOf_b true base _ HD.out).mono ?_
  rintro e w ⟨rfl, rfl⟩
  go_wp2_with fail
  refine (copyMatrix_c _ y w H.out (by omega) (fun k hk => by have := HSH.out k hk; omega) (fun k hk e => by have := HSH.out k hk; rw [e] at this; simp at this)).mono ?_
  rintro e w1 ⟨v1, r1, rfl, og1, u1⟩
  obtain ⟨a1, c1, rfl, q1, q2, q3⟩ := og1
  have GA1 := Lib.hid q3; clear q3
  go_wp2_with fail
  refine (copyMatrix_c _ y w1 (H.out.ext u1) (by omega) (fun k hk => by have := HSH.out k hk; omega) (fun k hk e => by have := HSH.out k hk; rw [e] at this; simp at this)).mono ?_
  rintro e w2 ⟨v2, r2, rfl, og2, u2⟩
  obtain ⟨a2, c2, rfl, p1, p2, p3⟩ := og2
  have GA2 := Lib.hid p3; clear p3
  have z1 := u1.size
  have z2 := u2.size
  have GA1' := Lib.hid (GA1.out.ext u2)
  go_wp2
  go_loopw [27] (fun i wr => ∃ (k : Nat) (zs ys : List (List Int)), k ≤ y.length ∧ i = .int .i64 k ∧ OwnGA w.heap.size w1.heap.size wr a1 r1 zs ∧ Mix (obLo base) y zs k 0 ∧ OwnGA w1.heap.size w2.heap.size wr a2 r2 ys ∧ Mix (obHi base) y ys k 0 ∧ MultUpTo base y k 0 ∧ w2.heap.size ≤ wr.heap.size ∧ Ext w wr) (fun i _ => y.length - (intOf i).toNat)
  case atStart => exact ⟨0, y, y, Nat.zero_le _, rfl, GA1'.out, Mix.start, GA2.out, Mix.start, fun i j _ _ hh => by omega, Nat.le_refl _, u1.trans u2⟩
  case round =>
    obtain ⟨k, zs, ys, hk, rfl, hg1, hm1, hg2, hm2, hmu, hsz, hx⟩ := hrel
    have HMU := Lib.hid hmu; clear hmu
    have HM1 := Lib.hid hm1; clear hm1
    have HM2 := Lib.hid hm2; clear hm2
    have HG1 := Lib.hid hg1; clear hg1
    have HG2 := Lib.hid hg2; clear hg2
    by_cases hlt : k < y.length
    · obtain ⟨bp, op, ap2, cp2, rfl, hcp0, s1, s2, s3⟩ := GY.out.at_ hlt
      have hcp := Ext.cell hx hcp0
      have P3 := Lib.hid s3; clear s3
      have hz1 : k < zs.length := by rw [HM1.out.len]; exact hlt
      have hz2 : k < ys.length := by rw [HM2.out.len]; exact hlt
      obtain ⟨b1, o1, rfl, _⟩ := HG1.out.at_ hz1
      obtain ⟨b2, o2, rfl, _⟩ := HG2.out.at_ hz2
      obtain ⟨ar1, cr1, ev1, n1, n1'⟩ := HG1.out.rowForm hz1
      obtain ⟨ar2, cr2, ev2, n2, n2'⟩ := HG2.out.rowForm hz2
      rw [HM1.out.row k hlt] at ev1 n1
      rw [HM2.out.row k hlt] at ev2 n2
      have EV1 := Lib.hid ev1; clear ev1
      have EV2 := Lib.hid ev2; clear ev2
      have hl7 := HSH.out k hlt
      go_wp2
      go_loopw [34] (fun i wr' => ∃ (l : Nat) (zs' ys' : List (List Int)), l ≤ (rowAt y k).length ∧ i = .int .i64 l ∧ OwnGA w.heap.size w1.heap.size wr' (some ⟨b1, o1, none⟩) r1 zs' ∧ Mix (obLo base) y zs' k l ∧ OwnGA w1.heap.size w2.heap.size wr' (some ⟨b2, o2, none⟩) r2 ys' ∧ Mix (obHi base) y ys' k l ∧ MultUpTo base y k l ∧ w2.heap.size ≤ wr'.heap.size ∧ Ext w wr') (fun i _ => (rowAt y k).length - (intOf i).toNat)
      case atStart => exact ⟨0, zs, ys, Nat.zero_le _, rfl, HG1.out, HM1.out, HG2.out, HM2.out, HMU.out, hsz, hx⟩
      case round =>
        obtain ⟨l, zs', ys', hl, rfl, hg1', hm1', hg2', hm2', hmu', hsz', hx'⟩ := hrel
        obtain ⟨wi, rfl⟩ : ∃ wi : World, wi = wr := ⟨_, rfl⟩
        have HMU' := Lib.hid hmu'; clear hmu'
        have HM1' := Lib.hid hm1'; clear hm1'
        have HM2' := Lib.hid hm2'; clear hm2'
        have HG1' := Lib.hid hg1'; clear hg1'
        have HG2' := Lib.hid hg2'; clear hg2'
        by_cases hl2 : l < (rowAt y k).length
        · obtain ⟨bq, oq, rfl, hcq0⟩ := P3.out l hl2
          have hcq := Ext.cell hx' hcq0
          have hel := gridB_elem HX.out hlt hl2
          have hz1' : k < zs'.length := by rw [HM1'.out.len]; exact hlt
          have hz2' : k < ys'.length := by rw [HM2'.out.len]; exact hlt
          have hr1 : l < (rowAt zs' k).length := by rw [HM1'.out.row k hlt]; exact hl2
          have hr2 : l < (rowAt ys' k).length := by rw [HM2'.out.row k hlt]; exact hl2
          obtain ⟨t, ht⟩ : ∃ t, ix (rowAt y k) l % base = t := ⟨_, rfl⟩
          have hb0 : (base == 0) = false := beq_false_of_ne (by omega)
          by_cases hmod : ix (rowAt y k) l % base = 0
          case neg =>
            have hq0 : (ix (rowAt y k) l % base != 0) = true := by simp [hmod]
            have HB := Lib.hid (obB_not hlt hl2 hmod)
            clear hmod ht
            go_wp2
            go_ret3
            exact NO.out _ hx' HB.out
          have hq0 : (ix (rowAt y k) l % base != 0) = false := by simp [hmod]
          have HMD := Lib.hid hmod; clear hmod ht
          obtain ⟨b3, o3, e3, lb3, lb3', _, hc3, hf3⟩ := HG1'.out.at_ hz1'
          obtain ⟨rfl, rfl⟩ : b1 = b3 ∧ o1 = o3 := by simpa using e3
          rw [EV1.out] at hc3
          obtain ⟨b4, o4, rfl, lb4, lb4', lt4, hc4, hf4, st1⟩ := HG1'.out.store hz1' hr1 EV1.out
          have ST1 := Lib.hid st1; clear st1 hc4
          have hc4 := (HG1'.out.store (l := l) hz1' hr1 EV1.out)
          have hap := HG1'.out.apart hz1' (by intro e; rw [e] at hr1; simp at hr1)
          rw [EV1.out] at hap
          simp only [blk, ablk] at hap
          have G2A := Lib.hid (HG2'.out.put_away ⟨b4, o4 + l, none⟩ (.int .i64 (obLo base k l (ix (rowAt y k) l))) (.inl (by simp only; omega)))
          obtain ⟨b5, o5, e5, lb5, lb5', _, hc5, hf5⟩ := G2A.out.at_ hz2'
          obtain ⟨rfl, rfl⟩ : b2 = b5 ∧ o2 = o5 := by simpa using e5
          rw [EV2.out] at hc5
          obtain ⟨b6, o6, rfl, lb6, lb6', lt6, hc6, hf6, st2⟩ := G2A.out.store hz2' hr2 EV2.out
          have ST2 := Lib.hid st2; clear st2
          obtain ⟨_, _, e7, _, _, _, hc7, _, _⟩ := hc4
          simp only [Option.some.injEq, Addr.mk.injEq, and_true] at e7
          obtain ⟨rfl, rfl⟩ := e7
          obtain ⟨L, hL⟩ : ∃ L, obLo base k l (ix (rowAt y k) l) = L := ⟨_, rfl⟩
          have hLL : imax 0 (ix (rowAt y k) l - base + 1) = L := hL
          have hmx : (if 0 < ix (rowAt y k) l - base + 1 then ix (rowAt y k) l - base + 1 else 0) = L := by rw [← hLL]; unfold imax; split <;> omega
          rw [hL] at hc5 hf5 hc6 hf6 G2A ST2
          have HLL := Lib.hid hLL; clear hLL
          have HL := Lib.hid hL; clear hL
          have HE := Lib.hid (show obHi base k l (ix (rowAt y k) l) = ix (rowAt y k) l + base - 1 from rfl)
          go_wp2
          go_roundw
          case rel => exact ⟨l + 1, _, _, by omega, by go_num, (ST1.out L).put_away _ _ (.inr (by simp only; omega)), HM1'.out.step hlt hl2 HL.out.symm, ST2.out _, HM2'.out.step hlt hl2 HE.out.symm, mult_step HMU'.out HMD.out, by simp [World.setCell]; exact hsz', (hx'.setCell _ (by simp; omega)).setCell _ (by simp; omega)⟩
          case measure => simp [intOf]; omega
        · go_wp2
          go_roundw
          case rel => exact ⟨k + 1, zs', ys', by omega, by go_num, HG1'.out, HM1'.out.next (by omega), HG2'.out, HM2'.out.next (by omega), mult_next HMU'.out (by omega), hsz', hx'⟩
          case measure => simp [intOf]; omega
    · have hB := obB_yes HX.out HD.out HMU.out (by omega)
      have HB := Lib.hid hB; clear hB
      have hk1 := HM1.out.done (by omega)
      have hk2 := HM2.out.done (by omega)
      subst hk1; subst hk2
      go_wp2
      go_ret3
      have hL : obL y base = mapG (obLo base) y := by simp [obL, HB.out]
      have hH : obH y base = mapG (obHi base) y := by simp [obH, HB.out]
      rw [hL, hH, HB.out]
      exact ⟨_, r1, _, r2, w1.heap.size, rfl, z1, Nat.le_trans z2 hsz, ⟨a1, c1, by rw [mapG_length]; rfl, by rw [mapG_length]; exact q1, q2, HG1.out⟩, ⟨a2, c2, by rw [mapG_length]; rfl, by rw [mapG_length]; exact p1, p2, HG2.out.mono (Nat.le_refl _) hsz⟩, hx⟩
end Go.Proofs.Ytmffhipfodlomaa
