/- The key of a record for some variables: the spec's and the program's. -/
import Derived.Test.YtedkhopclgjicaaDat
import Derived.Test.YtedkhopclgjicaaApp
namespace Go.Proofs.Ytedkhopclgjicaa
open Go.RowKit

def keyTo (s : List Vr) (xs vars : List Int) : Nat → Int
  | 0 => 0
  | n + 1 => keyTo s xs vars n * (vrAt s (ix vars n).toNat).lev + ix xs (ix vars n).toNat
def keyL (s : List Vr) (xs vars : List Int) : Int := keyTo s xs vars vars.length
/-- what keys are reckoned from is right -/
structure KeyOk (s : List Vr) (xs vars : List Int) : Prop where
  sch : SchP s
  fit : FitP s xs
  rise : Rising (s.length : Int) vars
namespace KeyOk
variable {s : List Vr} {xs vars : List Int}
theorem six (h : KeyOk s xs vars) : vars.length ≤ 6 := by
  have := h.rise.length (by omega)
  have := h.sch.1.2
  omega
theorem at_ (h : KeyOk s xs vars) {k : Nat} (hk : k < vars.length) : ∃ i : Nat, ix vars k = i ∧ i < s.length ∧ i < xs.length ∧ (2 ≤ (vrAt s i).lev ∧ (vrAt s i).lev ≤ 8) ∧ 0 ≤ ix xs i ∧ ix xs i < (vrAt s i).lev := by
  have h1 := (h.rise k hk).1
  refine ⟨(ix vars k).toNat, by omega, by omega, by rw [h.fit.1]; omega, (h.sch.2 _ (by omega)).2.1, h.fit.2 _ (by omega)⟩
theorem bound (h : KeyOk s xs vars) : ∀ n, n ≤ vars.length → 0 ≤ keyTo s xs vars n ∧ keyTo s xs vars n + 1 ≤ ((8 ^ n : Nat) : Int) := by
  intro n
  induction n with
  | zero => intro _; simp [keyTo]
  | succ n ih =>
    intro hn
    obtain ⟨i, e, _, _, hl, hx⟩ := h.at_ (k := n) (by omega)
    have hb := ih (by omega)
    have ei : (ix vars n).toNat = i := by omega
    simp only [keyTo, ei]
    have m1 : keyTo s xs vars n * (vrAt s i).lev ≤ keyTo s xs vars n * 8 := Int.mul_le_mul_of_nonneg_left hl.2 hb.1
    have m2 : 0 ≤ keyTo s xs vars n * (vrAt s i).lev := Int.mul_nonneg hb.1 (by omega)
    have e8 : ((8 ^ (n + 1) : Nat) : Int) = ((8 ^ n : Nat) : Int) * 8 := by rw [Nat.pow_succ]; push_cast; rfl
    rw [e8]
    omega
theorem lt (h : KeyOk s xs vars) (n : Nat) (hn : n ≤ vars.length) : 0 ≤ keyTo s xs vars n ∧ keyTo s xs vars n < 262144 := by
  have h1 := h.bound n hn
  have h2 : 8 ^ n ≤ 8 ^ 6 := Nat.pow_le_pow_right (by omega) (by have := h.six; omega)
  have h3 : (8 : Nat) ^ 6 = 262144 := by decide
  omega
end KeyOk

/-- the cells of variables, one after the other -/
def vcells (s : List Vr) : List Value := s.flatMap fun x => [.string x.name, .int .i64 x.lev]
theorem vcells_snoc (s : List Vr) (x : Vr) : vcells (s ++ [x]) = vcells s ++ [.string x.name, .int .i64 x.lev] := by simp [vcells]
theorem vcells_length (s : List Vr) : (vcells s).length = s.length * 2 := by
  induction s with
  | nil => rfl
  | cons a t ih =>
    have : (vcells (a :: t)).length = (vcells t).length + 2 := by simp [vcells]
    rw [this, ih]; simp; omega
theorem vcells_at : ∀ (s : List Vr) (i : Nat), i < s.length * 2 → (vcells s)[i]? = some (vrCell s i)
  | [], i, h => by simp at h
  | a :: t, 0, _ => by simp [vcells, vrCell, vrAt]
  | a :: t, 1, _ => by simp [vcells, vrCell, vrAt]
  | a :: t, i + 2, h => by
    have e1 : (vcells (a :: t))[i + 2]? = (vcells t)[i]? := by simp [vcells]
    have e2 : vrCell (a :: t) (i + 2) = vrCell t i := by
      have m : (i + 2) % 2 = i % 2 := by omega
      have d : (i + 2) / 2 = i / 2 + 1 := by omega
      simp [vrCell, m, d, vrAt]
    rw [e1, e2]
    exact vcells_at t i (by simp at h; omega)
/-- variables in a block of the call's own, built by append -/
def VRow (lo : Nat) (w : World) (v : Value) (s : List Vr) : Prop := w.ownsRow lo 49 2 v s.length (vcells s)
namespace VRow
variable {lo : Nat} {w w' : World} {v : Value} {s : List Vr}
theorem nil : VRow lo w (.slice none 0 0) [] := World.ownsRow_nil _ _ _ _
theorem ext (h : VRow lo w v s) (u : Ext w w') : VRow lo w' v s :=
  World.ownsRow.kept h (w' := w') (row := none) ⟨u.os, u.tape, u.output, u.size, fun k hk _ => u.block hk⟩ (by cases v.ownBlock <;> simp)
theorem push {x : Vr} {v' : Value} (h : w.ownsRow lo 49 2 v' (s.length + 1) (vcells s ++ [.string x.name, .int .i64 x.lev])) : VRow lo w v' (s ++ [x]) := by
  have : VRow lo w v' (s ++ [x]) = w.ownsRow lo 49 2 v' (s.length + 1) (vcells s ++ [.string x.name, .int .i64 x.lev]) := by simp [VRow, vcells_snoc]
  rw [this]; exact h
theorem blk (h : VRow lo w v s) {b : Nat} (hb : v.ownBlock = some b) : lo ≤ b ∧ b < w.heap.size := World.ownsRow.lt h b hb
theorem form (h : VRow lo w v s) : ∃ a c, v = .slice a s.length c := by
  rcases h.2 with ⟨h1, h2⟩ | ⟨g, cp, cur, h1, _⟩
  · exact ⟨none, 0, by rw [h1, h2]⟩
  · exact ⟨_, _, h1⟩
theorem grew {u : World} (h : VRow lo w v s) (hx : Ext u w) (hlo : u.heap.size ≤ lo) (hg : w.grownBy w' v.ownBlock) : Ext u w' :=
  hx.of_upd (Upd.of_grown hg) (fun b hb => by have := (h.blk hb).1; omega)
theorem read (h : VRow lo w v s) : Vrs w v s := by
  obtain ⟨h1, h2⟩ := h
  rcases h2 with ⟨rfl, h0⟩ | ⟨g, cap, cur, rfl, hb, hg, hnc, hm, hs, ht⟩
  · have : s = [] := List.eq_nil_of_length_eq_zero h0
    subst this; exact Vrs.nil w
  · refine ⟨some ⟨g, 0, none⟩, cap, rfl, hnc, by simpa [maxLen] using hm, fun i hi => ⟨g, 0, rfl, ?_⟩⟩
    have h3 := vcells_at s i hi
    rw [← ht, List.getElem?_take, if_pos hi] at h3
    have h4 : cur[i]? = some (vrCell s i) := by simpa using h3
    simp [World.cell?, hg, h4]
end VRow

/-- appending one struct -/
theorem appN {P : Program} {ops : Array Oper} {rest : List Oper} {o : Oper} {a : Act} {Q : Exit → Act → World → Prop} (w : World) (hgd : o.guard = none) (s x : Operand) (t e : TypeId)
    (ho : o.op = .call { callee := .builtin .append, args := #[s, x], argTypes := #[t, t] }) (z : Value) (sz bytes : Nat) (ht : P.underlying t = some (.slice e))
    (hinfo : (P.info? e).map (fun i => (i.zero, i.size, i.bytes)) = some (some z, sz, bytes)) (hzs : z.cells.size = sz) (hsz : 0 < sz)
    (lo : Nat) (v : Value) (n : Nat) (xs : List Value) (hs : a.eval s = v) (hown : w.ownsRow lo e sz v n xs) (B c T : Nat) (us : List Value) (hx : a.eval x = .slice (some ⟨B, 0, none⟩) 1 c) (hb : Box w B T us.toArray) (hl : us.length = sz) (hu : ∀ u ∈ us, u.oneCell' = true)
    (hn : n < 9223372036854775807) (hbytes : (n + 1) * bytes ≤ 140737488355328) (hlo : lo ≤ w.heap.size)
    (h : ∀ g cap w', w'.ownsRow lo e sz (.slice (some ⟨g, 0, none⟩) (n + 1) cap) (n + 1) (xs ++ us) → w.grownBy w' v.ownBlock → (v.ownBlock = some g ∨ g = w.heap.size) → g < w'.heap.size →
      wpList P ops Q rest (a.put o.dst (.slice (some ⟨g, 0, none⟩) (n + 1) cap)) w') : wpList P ops Q (o :: rest) a w := by
  obtain ⟨i, hi, hzz⟩ := Option.map_eq_some_iff.1 hinfo
  simp only [Prod.mk.injEq] at hzz
  obtain ⟨hz0, hz1, hz2⟩ := hzz
  exact wpList_append_lies w hgd s x t ho lo e i z sz bytes ht hi hz0 hz1 hz2 hzs hsz v n xs hs hown ⟨B, 0, none⟩ 1 c us hx (by omega) (by have := World.news_of_block hb; simpa using this) hu
    (by omega) (by simp [maxLen]; omega) hbytes hlo w.heap.size rfl h

def partL (s : List Vr) (vars : List Int) : List Vr := vars.map fun i => vrAt s i.toNat
def pickL (xs vars : List Int) : List Int := vars.map fun i => ix xs i.toNat
theorem partL_take {s : List Vr} {vars : List Int} {k : Nat} (hk : k < vars.length) : partL s (vars.take (k + 1)) = partL s (vars.take k) ++ [vrAt s (ix vars k).toNat] := by
  simp [partL, take_succ_ix hk]
theorem pickL_take {xs vars : List Int} {k : Nat} (hk : k < vars.length) : pickL xs (vars.take (k + 1)) = pickL xs (vars.take k) ++ [ix xs (ix vars k).toNat] := by
  simp [pickL, take_succ_ix hk]
theorem partL_at {s : List Vr} {vars : List Int} {k : Nat} (hk : k < vars.length) : vrAt (partL s vars) k = vrAt s (ix vars k).toNat := by
  simp [partL, vrAt, ix, List.getD, hk]
theorem pickL_at {xs vars : List Int} {k : Nat} (hk : k < vars.length) : ix (pickL xs vars) k = ix xs (ix vars k).toNat := by
  simp [pickL, ix, List.getD, hk]

set_option maxHeartbeats 800000 in
theorem sPart_c (v1 v2 : Value) (s : List Vr) (xs vars : List Int) (w : World) (h1 : Vrs w v1 s) (h2 : Ints w v2 vars) (hk : KeyOk s xs vars) :
    Calls Try.prog 31 #[v1, v2] w fun e w' => ∃ v', e = .returned v' ∧ Vrs w' v' (partL s vars) ∧ Ext w w' := by
  obtain ⟨a1, c1, rfl, e1, e2, g1⟩ := h1
  obtain ⟨a2, c2, rfl, e3, e4, g2⟩ := h2
  have G1 := Lib.hid g1; clear g1
  have G2 := Lib.hid g2; clear g2
  have h6 := hk.six
  have HK := Lib.hid hk; clear hk
  go_enter Try.func31, Try.ntmps31
  go_wp2
  go_loopw [5, 10] (fun r i wr => ∃ k : Nat, k ≤ vars.length ∧ i = .int .i64 k ∧ VRow w.heap.size wr r (partL s (vars.take k)) ∧ Ext w wr) (fun _ i _ => vars.length - (intOf i).toNat)
  case atStart => exact ⟨0, Nat.zero_le _, rfl, by simpa [partL] using VRow.nil, Ext.refl w⟩
  case round =>
    obtain ⟨k, hk, rfl, hr, hx⟩ := hrel
    obtain ⟨wo, rfl⟩ : ∃ wo : World, wo = wr := ⟨_, rfl⟩
    have HR := Lib.hid hr; clear hr
    by_cases hlt : k < vars.length
    · obtain ⟨b2, o2, rfl, hc⟩ := G2.out k hlt
      have hc' := Ext.cell hx hc
      obtain ⟨i, ei, hi1, hi2, hlv, hxv⟩ := HK.out.at_ hlt
      have HE : Hid ((ix vars k).toNat = i) := Lib.hid (by omega)
      rw [ei] at hc'
      obtain ⟨b1, o1, rfl, hd0, hd1⟩ := (G1.out.ext hx).at_ hi1
      have HPT := Lib.hid (partL_take (s := s) hlt)
      rw [HE.out] at HPT
      clear ei hc
      obtain ⟨nm, hnm⟩ : ∃ nm, (vrAt s i).name = nm := ⟨_, rfl⟩
      obtain ⟨lv, hlv'⟩ : ∃ lv, (vrAt s i).lev = lv := ⟨_, rfl⟩
      have HVE : Hid (vrAt s i = ⟨nm, lv⟩) := Lib.hid (by rw [← hnm, ← hlv'])
      rw [hnm] at hd0
      rw [hlv'] at hd1 hlv hxv
      clear hnm hlv'
      have hlen : (partL s (vars.take k)).length = k := by simp [partL]; omega
      have hown := HR.out.ext ((Ext.refl wo).alloc (.cells #[.string nm, .int .i64 lv] 49))
      have HOWN := Lib.hid hown
      unfold VRow at hown
      rw [hlen] at hown
      have HOW2 := Lib.hid hown; clear hown
      have HLEN := Lib.hid hlen; clear hlen
      have hs := hx.size
      go_wp2_with (at_builtin; go_loud (refine appN _ rfl _ _ 29 49 rfl (.agg #[.string ByteArray.empty, .int .i64 0]) 2 24 Try.underlying29 info_variable rfl (by decide) w.heap.size _ k _ rfl HOW2.out wo.heap.size 1 49 [.string nm, .int .i64 lv] rfl (Box.new _ _ _ rfl) rfl (by simp [Value.oneCell']) (by omega) (by omega) (by simp; omega) ?_))
      intro g cp w3 hown3 hgrow hat hlt3
      have hx3 := HOWN.out.grew (hx.alloc _) (Nat.le_refl _) hgrow
      have HO3 := Lib.hid hown3; clear hown3
      have HX3 := Lib.hid hx3; clear hx3
      clear hgrow
      go_wp2
      go_roundw
      case rel => exact ⟨k + 1, by omega, by go_num, by rw [HPT.out, HVE.out]; exact VRow.push (by rw [HLEN.out]; exact HO3.out), HX3.out⟩
      case measure => simp [intOf]; omega
    · have hkl : vars.take k = vars := List.take_of_length_le (by omega)
      have HKL := Lib.hid hkl; clear hkl
      go_wp2
      go_ret
      refine ⟨_, rfl, ?_, hx⟩
      have := HR.out.read
      rwa [HKL.out] at this
set_option maxHeartbeats 800000 in
theorem sPick_c (v1 v2 : Value) (s : List Vr) (xs vars : List Int) (w : World) (h1 : Ints w v1 xs) (h2 : Ints w v2 vars) (hk : KeyOk s xs vars) :
    Calls Try.prog 32 #[v1, v2] w fun e w' => ∃ v', e = .returned v' ∧ Ints w' v' (pickL xs vars) ∧ Ext w w' := by
  obtain ⟨a1, c1, rfl, e1, e2, g1⟩ := h1
  obtain ⟨a2, c2, rfl, e3, e4, g2⟩ := h2
  have G1 := Lib.hid g1; clear g1
  have G2 := Lib.hid g2; clear g2
  have h6 := hk.six
  have HK := Lib.hid hk; clear hk
  go_enter Try.func32, Try.ntmps32
  go_wp2
  go_loopw [5, 10] (fun r i wr => ∃ k : Nat, k ≤ vars.length ∧ i = .int .i64 k ∧ IRow w.heap.size wr r (pickL xs (vars.take k)) ∧ Ext w wr) (fun _ i _ => vars.length - (intOf i).toNat)
  case atStart => exact ⟨0, Nat.zero_le _, rfl, by simpa [pickL] using IRow.nil, Ext.refl w⟩
  case round =>
    obtain ⟨k, hk, rfl, hr, hx⟩ := hrel
    obtain ⟨wo, rfl⟩ : ∃ wo : World, wo = wr := ⟨_, rfl⟩
    have HR := Lib.hid hr; clear hr
    by_cases hlt : k < vars.length
    · obtain ⟨b2, o2, rfl, hc⟩ := G2.out k hlt
      have hc' := Ext.cell hx hc
      obtain ⟨i, ei, hi1, hi2, hlv, hxv⟩ := HK.out.at_ hlt
      have HE : Hid ((ix vars k).toNat = i) := Lib.hid (by omega)
      rw [ei] at hc'
      obtain ⟨b1, o1, rfl, hd0'⟩ := G1.out i hi2
      have hd0 := Ext.cell hx hd0'
      have HPT := Lib.hid (pickL_take (xs := xs) hlt)
      rw [HE.out] at HPT
      clear ei hc hd0' hlv hxv
      obtain ⟨x, hxe⟩ : ∃ x, ix xs i = x := ⟨_, rfl⟩
      rw [hxe] at hd0 HPT
      clear hxe
      have hlen : (pickL xs (vars.take k)).length = k := by simp [pickL]; omega
      have hown := HR.out.ext ((Ext.refl wo).alloc (.cells #[.int .i64 x] 3))
      have HOWN := Lib.hid hown
      unfold IRow at hown
      rw [hlen] at hown
      have HOW2 := Lib.hid hown; clear hown
      have HLEN := Lib.hid hlen; clear hlen
      have hs := hx.size
      go_wp2_with (at_builtin; go_loud (refine app1 _ rfl _ _ 24 3 rfl (.int .i64 0) 8 Try.underlying24 info_int rfl w.heap.size _ k _ rfl HOW2.out wo.heap.size 1 3 (.int .i64 x) rfl (Box.new _ _ _ rfl) rfl (by omega) (by omega) (by simp; omega) ?_))
      intro g cp w3 hown3 hgrow hat hlt3
      have hx3 := HOWN.out.grew (hx.alloc _) (Nat.le_refl _) hgrow
      have HO3 := Lib.hid hown3; clear hown3
      have HX3 := Lib.hid hx3; clear hx3
      clear hgrow
      go_wp2
      go_roundw
      case rel => exact ⟨k + 1, by omega, by go_num, by rw [HPT.out]; exact IRow.push (by rw [HLEN.out]; exact HO3.out), HX3.out⟩
      case measure => simp [intOf]; omega
    · have hkl : vars.take k = vars := List.take_of_length_le (by omega)
      have HKL := Lib.hid hkl; clear hkl
      go_wp2
      go_ret
      refine ⟨_, rfl, ?_, hx⟩
      have := (HR.out.own (Nat.le_refl _)).ints
      rwa [HKL.out] at this
set_option maxHeartbeats 800000 in
theorem sIndex_c (v1 v2 : Value) (s : List Vr) (xs vars : List Int) (w : World) (h1 : Vrs w v1 (partL s vars)) (h2 : Ints w v2 (pickL xs vars)) (hk : KeyOk s xs vars) :
    Calls Try.prog 30 #[v1, v2] w fun e w' => e = .returned (.int .i64 (keyL s xs vars)) ∧ Ext w w' := by
  have l1 : (partL s vars).length = vars.length := by simp [partL]
  have l2 : (pickL xs vars).length = vars.length := by simp [pickL]
  obtain ⟨a1, c1, rfl, e1, e2, g1⟩ := h1
  obtain ⟨a2, c2, rfl, e3, e4, g2⟩ := h2
  have G1 := Lib.hid g1; clear g1
  have G2 := Lib.hid g2; clear g2
  rw [l1] at e1 ⊢
  rw [l2] at e3 ⊢
  have L1 := Lib.hid l1; clear l1
  have L2 := Lib.hid l2; clear l2
  have h6 := hk.six
  have HK := Lib.hid hk; clear hk
  go_enter Try.func30, Try.ntmps30
  go_wp2
  go_loopw [5, 10] (fun r i wr => ∃ k : Nat, k ≤ vars.length ∧ i = .int .i64 k ∧ r = .int .i64 (keyTo s xs vars k) ∧ Ext w wr) (fun _ i _ => vars.length - (intOf i).toNat)
  case atStart => exact ⟨0, Nat.zero_le _, rfl, rfl, Ext.refl w⟩
  case round =>
    obtain ⟨k, hk, rfl, rfl, hx⟩ := hrel
    obtain ⟨wo, rfl⟩ : ∃ wo : World, wo = wr := ⟨_, rfl⟩
    by_cases hlt : k < vars.length
    · obtain ⟨b1, o1, rfl, hd0, hd1⟩ := (G1.out.ext hx).at_ (k := k) (by rw [L1.out]; exact hlt)
      obtain ⟨b2, o2, rfl, hc'⟩ := G2.out k (by rw [L2.out]; exact hlt)
      rw [pickL_at hlt] at hc'
      rw [partL_at hlt] at hd0 hd1
      obtain ⟨i, ei, hi1, hi2, hlv, hxv⟩ := HK.out.at_ hlt
      have hb := HK.out.lt k hk
      have hb2 := HK.out.lt (k + 1) (by omega)
      have HKT : Hid (keyTo s xs vars (k + 1) = keyTo s xs vars k * (vrAt s (ix vars k).toNat).lev + ix xs (ix vars k).toNat) := Lib.hid rfl
      have e0 : (ix vars k).toNat = i := by omega
      rw [e0] at hd0 hd1 hc' HKT
      clear e0 ei
      obtain ⟨nm, hnm⟩ : ∃ nm, (vrAt s i).name = nm := ⟨_, rfl⟩
      obtain ⟨lv, hlv'⟩ : ∃ lv, (vrAt s i).lev = lv := ⟨_, rfl⟩
      obtain ⟨x, hxe⟩ : ∃ x, ix xs i = x := ⟨_, rfl⟩
      obtain ⟨K, hKe⟩ : ∃ K, keyTo s xs vars k = K := ⟨_, rfl⟩
      obtain ⟨K2, hKe2⟩ : ∃ K, keyTo s xs vars (k + 1) = K := ⟨_, rfl⟩
      rw [hnm] at hd0
      rw [hlv'] at hd1 hlv hxv HKT
      rw [hxe] at hc' hxv HKT
      rw [hKe] at hb HKT ⊢
      rw [hKe2] at hb2 HKT
      have HK2 := Lib.hid hKe2
      clear hnm hlv' hxe hKe hKe2
      have hc := Ext.cell (hx.alloc (.cells #[.string nm, .int .i64 lv] 49)) hc'
      clear hc'
      obtain ⟨M, hM⟩ : ∃ M, K * lv = M := ⟨_, rfl⟩
      have hMx : M + x = K2 := by rw [← hM]; exact HKT.out.symm
      have hw1 : IntKind.i64.wrap M = M := IntWalk.i64_in _ (by omega)
      have hw2 : IntKind.i64.wrap K2 = K2 := IntWalk.i64_in _ (by omega)
      have bx := Box.new wo 49 #[.string nm, .int .i64 lv] rfl
      have k1 := bx.cell 1 (by simp)
      have hk0 : (0 : Int) ≤ (k : Int) := by omega
      have hk1 : (k : Int) < (vars.length : Int) := by omega
      go_wp2_with fail
      go_quiet (fail)
      go_wp2
      go_roundw
      case rel => exact ⟨k + 1, by omega, by go_num, by rw [HK2.out], (hx.alloc _).drewN _⟩
      case measure => simp [intOf]; omega
    · have hkl : k = vars.length := by omega
      have HKL := Lib.hid hkl; clear hkl
      go_wp2
      go_ret
      exact ⟨ret_int (by rw [HKL.out]; rfl), hx⟩
set_option maxHeartbeats 400000 in
theorem swKey_c (v1 v2 v3 : Value) (s : List Vr) (xs vars : List Int) (w : World) (h1 : Vrs w v1 s) (h2 : Ints w v2 xs) (h3 : Ints w v3 vars) (hk : KeyOk s xs vars) :
    Calls Try.prog 18 #[v1, v2, v3] w fun e w' => e = .returned (.int .i64 (keyL s xs vars)) ∧ Ext w w' := by
  have H1 := Lib.hid h1; clear h1
  have H2 := Lib.hid h2; clear h2
  have H3 := Lib.hid h3; clear h3
  have HK := Lib.hid hk; clear hk
  go_enter Try.func18, Try.ntmps18
  go_wp2_with fail
  refine (sPart_c _ _ s xs vars _ H1.out H3.out HK.out).mono ?_
  rintro e w1 ⟨x1, rfl, r1, u1⟩
  go_wp2_with fail
  refine (sPick_c _ _ s xs vars _ (H2.out.ext u1) (H3.out.ext u1) HK.out).mono ?_
  rintro e w2 ⟨x2, rfl, r2, u2⟩
  go_wp2_with fail
  refine (sIndex_c _ _ s xs vars _ (r1.ext u2) r2 HK.out).mono ?_
  rintro e w3 ⟨rfl, u3⟩
  go_wp2
  go_ret
  exact ⟨rfl, (u1.trans u2).trans u3⟩
set_option maxHeartbeats 800000 in
theorem keyOf_c (v1 v2 v3 : Value) (s : List Vr) (r : Pe) (vars : List Int) (w : World) (h1 : Vrs w v1 s) (h2 : PeR w v2 r) (h3 : Ints w v3 vars) (hk : KeyOk s r.vals vars) :
    Calls Try.prog 24 #[v1, v2, v3] w fun e w' => e = .returned (.int .i64 (keyL s r.vals vars)) ∧ Ext w w' := by
  obtain ⟨a1, c1, rfl, e1, e2, g1⟩ := h1
  obtain ⟨rv, rfl, hi⟩ := h2
  obtain ⟨a2, c2, rfl, p1, p2, p3⟩ := hi
  obtain ⟨a3, c3, rfl, q1, q2, q3⟩ := h3
  have G1 := Lib.hid g1; clear g1
  have G2 := Lib.hid p3; clear p3
  have G3 := Lib.hid q3; clear q3
  obtain ⟨A, hA⟩ : ∃ A, r.area = A := ⟨_, rfl⟩
  obtain ⟨H, hH⟩ : ∃ H, r.house = H := ⟨_, rfl⟩
  obtain ⟨xs, hxs⟩ : ∃ xs, r.vals = xs := ⟨_, rfl⟩
  rw [hxs] at G2 p1 hk
  rw [hA, hH, hxs]
  clear hA hH hxs
  have h6 := hk.six
  have HK := Lib.hid hk; clear hk
  have u0 := (Ext.refl w).alloc (.cells #[.int .i64 A, .int .i64 H, .slice a2 xs.length c2] 46)
  have b0 := Box.new w 46 #[.int .i64 A, .int .i64 H, .slice a2 xs.length c2] rfl
  go_enter Try.func24, Try.ntmps24
  go_wp2
  go_loopw [7, 12] (fun r i wr => ∃ k : Nat, k ≤ vars.length ∧ i = .int .i64 k ∧ r = .int .i64 (keyTo s xs vars k) ∧ Ext (w.alloc (.cells #[.int .i64 A, .int .i64 H, .slice a2 xs.length c2] 46)) wr) (fun _ i _ => vars.length - (intOf i).toNat)
  case atStart => exact ⟨0, Nat.zero_le _, rfl, rfl, Ext.refl _⟩
  case round =>
    obtain ⟨k, hk, rfl, rfl, hx⟩ := hrel
    obtain ⟨wo, rfl⟩ : ∃ wo : World, wo = wr := ⟨_, rfl⟩
    have hxx := u0.trans hx
    by_cases hlt : k < vars.length
    · obtain ⟨b3, o3, rfl, hc3'⟩ := G3.out k hlt
      have hc3 := Ext.cell hxx hc3'
      obtain ⟨i, ei, hi1, hi2, hlv, hxv⟩ := HK.out.at_ hlt
      rw [ei] at hc3
      obtain ⟨b1, o1, rfl, hd0, hd1⟩ := (G1.out.ext hxx).at_ hi1
      obtain ⟨b2, o2, rfl, hc2'⟩ := G2.out i hi2
      have hc2 := Ext.cell hxx hc2'
      clear hc2' hc3' hd0
      have hb := HK.out.lt k hk
      have hb2 := HK.out.lt (k + 1) (by omega)
      have HKT : Hid (keyTo s xs vars (k + 1) = keyTo s xs vars k * (vrAt s (ix vars k).toNat).lev + ix xs (ix vars k).toNat) := Lib.hid rfl
      have e0 : (ix vars k).toNat = i := by omega
      rw [e0] at HKT
      clear e0 ei
      obtain ⟨lv, hlv'⟩ : ∃ lv, (vrAt s i).lev = lv := ⟨_, rfl⟩
      obtain ⟨x, hxe⟩ : ∃ x, ix xs i = x := ⟨_, rfl⟩
      obtain ⟨K, hKe⟩ : ∃ K, keyTo s xs vars k = K := ⟨_, rfl⟩
      obtain ⟨K2, hKe2⟩ : ∃ K, keyTo s xs vars (k + 1) = K := ⟨_, rfl⟩
      rw [hlv'] at hd1 hlv hxv HKT
      rw [hxe] at hc2 hxv HKT
      rw [hKe] at hb HKT ⊢
      rw [hKe2] at hb2 HKT
      have HK2 := Lib.hid hKe2
      clear hlv' hxe hKe hKe2
      obtain ⟨M, hM⟩ : ∃ M, K * lv = M := ⟨_, rfl⟩
      have hMx : M + x = K2 := by rw [← hM]; exact HKT.out.symm
      have hw1 : IntKind.i64.wrap M = M := IntWalk.i64_in _ (by omega)
      have hw2 : IntKind.i64.wrap K2 = K2 := IntWalk.i64_in _ (by omega)
      have bx := b0.ext hx
      have k2 := bx.cell 2 (by simp)
      have hk0 : (0 : Int) ≤ (i : Int) := by omega
      have hk1 : (i : Int) < (s.length : Int) := by omega
      have hk3 : (i : Int) < (xs.length : Int) := by omega
      go_wp2_with fail
      go_quiet (fail)
      go_wp2
      go_roundw
      case rel => exact ⟨k + 1, by omega, by go_num, by rw [HK2.out], hx.drewN _⟩
      case measure => simp [intOf]; omega
    · have hkl : k = vars.length := by omega
      have HKL := Lib.hid hkl; clear hkl
      go_wp2
      go_ret
      exact ⟨ret_int (by rw [HKL.out]; rfl), hxx⟩
end Go.Proofs.Ytedkhopclgjicaa
