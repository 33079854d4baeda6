/- Tables over a geography and a schema: the numbers of cells: the spec's and the program's. -/
import Derived.Test.YtolmmhdeebgglaaGq
import Derived.Test.YtolmmhdeebgglaaTaB
import Derived.Test.YtolmmhdeebgglaaSchT
import Derived.Test.YtolmmhdeebgglaaQext
namespace Go.Proofs.Ytolmmhdeebgglaa
open Go.RowKit

/-- variables that are reckoned with: six at most, 2 to 8 levels each -/
def LevP (l : List Vr) : Prop := l.length ≤ 6 ∧ ∀ k, k < l.length → 2 ≤ (vrAt l k).lev ∧ (vrAt l k).lev ≤ 8
theorem SchP.lev {s : List Vr} (h : SchP s) : LevP s := ⟨h.1.2, fun k hk => (h.2 k hk).2.1⟩
def partL (s : List Vr) (vars : List Int) : List Vr := vars.map fun i => vrAt s i.toNat
theorem partL_take {s : List Vr} {vars : List Int} {k : Nat} (hk : k < vars.length) : partL s (vars.take (k + 1)) = partL s (vars.take k) ++ [vrAt s (ix vars k).toNat] := by
  simp [partL, take_succ_ix hk]
theorem partL_at {s : List Vr} {vars : List Int} {k : Nat} (hk : k < vars.length) : vrAt (partL s vars) k = vrAt s (ix vars k).toNat := by
  simp [partL, vrAt, ix, List.getD, hk]
theorem partL_len (s : List Vr) (vars : List Int) : (partL s vars).length = vars.length := by simp [partL]
theorem rising_six {s : List Vr} {vars : List Int} (hs : SchP s) (hr : Rising (s.length : Int) vars) : vars.length ≤ 6 := by
  have := hr.length (by omega); have := hs.1.2; omega
theorem rising_at {s : List Vr} {vars : List Int} (hs : SchP s) (hr : Rising (s.length : Int) vars) {k : Nat} (hk : k < vars.length) :
    ∃ i : Nat, ix vars k = i ∧ i < s.length ∧ (2 ≤ (vrAt s i).lev ∧ (vrAt s i).lev ≤ 8) := by
  have h1 := (hr k hk).1
  exact ⟨(ix vars k).toNat, by omega, by omega, (hs.2 _ (by omega)).2.1⟩
theorem partL_lev {s : List Vr} {vars : List Int} (hs : SchP s) (hr : Rising (s.length : Int) vars) : LevP (partL s vars) := by
  refine ⟨by rw [partL_len]; exact rising_six hs hr, fun k hk => ?_⟩
  rw [partL_len] at hk
  obtain ⟨i, e, _, h⟩ := rising_at hs hr hk
  rw [partL_at hk, e]
  simpa using h
/-- the number of lists of values of the first n variables -/
def cntTo (l : List Vr) : Nat → Int
  | 0 => 1
  | n + 1 => cntTo l n * (vrAt l n).lev
def cntL (l : List Vr) : Int := cntTo l l.length
theorem cntTo_bound {l : List Vr} (h : LevP l) : ∀ n, n ≤ l.length → 1 ≤ cntTo l n ∧ cntTo l n ≤ ((8 ^ n : Nat) : Int) := by
  intro n
  induction n with
  | zero => intro _; simp [cntTo]
  | succ n ih =>
    intro hn
    have hl := h.2 n (by omega)
    have hb := ih (by omega)
    simp only [cntTo]
    have m1 : cntTo l n * (vrAt l n).lev ≤ cntTo l n * 8 := Int.mul_le_mul_of_nonneg_left hl.2 (by omega)
    have m2 : cntTo l n * 2 ≤ cntTo l n * (vrAt l n).lev := Int.mul_le_mul_of_nonneg_left hl.1 (by omega)
    have e8 : ((8 ^ (n + 1) : Nat) : Int) = ((8 ^ n : Nat) : Int) * 8 := by rw [Nat.pow_succ]; push_cast; rfl
    rw [e8]
    omega
theorem cntTo_lt {l : List Vr} (h : LevP l) (n : Nat) (hn : n ≤ l.length) : 1 ≤ cntTo l n ∧ cntTo l n ≤ 262144 := by
  have h1 := cntTo_bound h n hn
  have h2 : 8 ^ n ≤ 8 ^ 6 := Nat.pow_le_pow_right (by omega) (by have := h.1; omega)
  have h3 : (8 : Nat) ^ 6 = 262144 := by decide
  omega
/-- the number of cells of a table -/
def uCnt (par : List Int) (s : List Vr) (t : Ta) : Int := ((levL par t.level).length : Int) * cntL (partL s t.vars)
theorem uCnt_bound {par : List Int} {s : List Vr} {t : Ta} (hg : GeoP par) (hs : SchP s) (hr : Rising (s.length : Int) t.vars) :
    ((levL par t.level).length : Int) ≤ 30 ∧ 1 ≤ cntL (partL s t.vars) ∧ cntL (partL s t.vars) ≤ 262144 ∧ 0 ≤ uCnt par s t ∧ uCnt par s t ≤ 7864320 := by
  have h1 := levTo_len par t.level par.length
  have h2 := hg.1.2
  have h3 := cntTo_lt (partL_lev hs hr) _ (Nat.le_refl _)
  have h4 : ((levL par t.level).length : Int) ≤ 30 := by unfold levL; omega
  have h5 : (0 : Int) ≤ ((levL par t.level).length : Int) := by omega
  refine ⟨h4, h3.1, h3.2, Int.mul_nonneg h5 (by unfold cntL; omega), ?_⟩
  have m1 : ((levL par t.level).length : Int) * cntL (partL s t.vars) ≤ 30 * cntL (partL s t.vars) := Int.mul_le_mul_of_nonneg_right h4 (by unfold cntL; omega)
  unfold uCnt cntL at *
  omega
theorem uCnt_pos {par : List Int} {s : List Vr} {t : Ta} (hg : GeoP par) (hs : SchP s) (hr : Rising (s.length : Int) t.vars) : 0 < uCnt par s t ↔ (levL par t.level).length ≠ 0 := by
  have h := uCnt_bound hg hs hr
  constructor
  · intro h1 h2; unfold uCnt at h1; rw [h2] at h1; simp at h1
  · intro h1
    have : (1 : Int) * 1 ≤ ((levL par t.level).length : Int) * cntL (partL s t.vars) := Int.mul_le_mul (by omega) h.2.1 (by omega) (by omega)
    unfold uCnt; omega


/-- the cells of variables, one after the other -/
def vcells (s : List Vr) : List Value := s.flatMap fun x => [.string x.name, .int .i64 x.lev]
theorem vcells_snoc (s : List Vr) (x : Vr) : vcells (s ++ [x]) = vcells s ++ [.string x.name, .int .i64 x.lev] := by simp [vcells]
theorem vcells_length (s : List Vr) : (vcells s).length = s.length * 2 := by
  induction s with
  | nil => rfl
  | cons a t ih =>
    have : (vcells (a :: t)).length = (vcells t).length + 2 := by simp [vcells]
    rw [this, ih]; simp; omega
theorem vcells_at : ∀ (s : List Vr) (i : Nat), i < s.length * 2 → (vcells s)[i]? = some (vrCell s i)
  | [], i, h => by simp at h
  | a :: t, 0, _ => by simp [vcells, vrCell, vrAt]
  | a :: t, 1, _ => by simp [vcells, vrCell, vrAt]
  | a :: t, i + 2, h => by
    have e1 : (vcells (a :: t))[i + 2]? = (vcells t)[i]? := by simp [vcells]
    have e2 : vrCell (a :: t) (i + 2) = vrCell t i := by
      have m : (i + 2) % 2 = i % 2 := by omega
      have d : (i + 2) / 2 = i / 2 + 1 := by omega
      simp [vrCell, m, d, vrAt]
    rw [e1, e2]
    exact vcells_at t i (by simp at h; omega)
/-- variables in a block of the call's own, built by append -/
def VRow (lo : Nat) (w : World) (v : Value) (s : List Vr) : Prop := w.ownsRow lo 67 2 v s.length (vcells s)
namespace VRow
variable {lo : Nat} {w w' : World} {v : Value} {s : List Vr}
theorem nil : VRow lo w (.slice none 0 0) [] := World.ownsRow_nil _ _ _ _
theorem ext (h : VRow lo w v s) (u : Ext w w') : VRow lo w' v s :=
  World.ownsRow.kept h (w' := w') (row := none) ⟨u.os, u.tape, u.output, u.size, fun k hk _ => u.block hk⟩ (by cases v.ownBlock <;> simp)
theorem push {x : Vr} {v' : Value} (h : w.ownsRow lo 67 2 v' (s.length + 1) (vcells s ++ [.string x.name, .int .i64 x.lev])) : VRow lo w v' (s ++ [x]) := by
  have : VRow lo w v' (s ++ [x]) = w.ownsRow lo 67 2 v' (s.length + 1) (vcells s ++ [.string x.name, .int .i64 x.lev]) := by simp [VRow, vcells_snoc]
  rw [this]; exact h
theorem blk (h : VRow lo w v s) {b : Nat} (hb : v.ownBlock = some b) : lo ≤ b ∧ b < w.heap.size := World.ownsRow.lt h b hb
theorem form (h : VRow lo w v s) : ∃ a c, v = .slice a s.length c := by
  rcases h.2 with ⟨h1, h2⟩ | ⟨g, cp, cur, h1, _⟩
  · exact ⟨none, 0, by rw [h1, h2]⟩
  · exact ⟨_, _, h1⟩
theorem grew {u : World} (h : VRow lo w v s) (hx : Ext u w) (hlo : u.heap.size ≤ lo) (hg : w.grownBy w' v.ownBlock) : Ext u w' :=
  hx.of_upd (Upd.of_grown hg) (fun b hb => by have := (h.blk hb).1; omega)
theorem read (h : VRow lo w v s) : Vrs w v s := by
  obtain ⟨h1, h2⟩ := h
  rcases h2 with ⟨rfl, h0⟩ | ⟨g, cap, cur, rfl, hb, hg, hnc, hm, hs, ht⟩
  · have : s = [] := List.eq_nil_of_length_eq_zero h0
    subst this; exact Vrs.nil w
  · refine ⟨some ⟨g, 0, none⟩, cap, rfl, hnc, by simpa [maxLen] using hm, fun i hi => ⟨g, 0, rfl, ?_⟩⟩
    have h3 := vcells_at s i hi
    rw [← ht, List.getElem?_take, if_pos hi] at h3
    have h4 : cur[i]? = some (vrCell s i) := by simpa using h3
    simp [World.cell?, hg, h4]
end VRow

/-- appending one struct -/
theorem appN {P : Program} {ops : Array Oper} {rest : List Oper} {o : Oper} {a : Act} {Q : Exit → Act → World → Prop} (w : World) (hgd : o.guard = none) (s x : Operand) (t e : TypeId)
    (ho : o.op = .call { callee := .builtin .append, args := #[s, x], argTypes := #[t, t] }) (z : Value) (sz bytes : Nat) (ht : P.underlying t = some (.slice e))
    (hinfo : (P.info? e).map (fun i => (i.zero, i.size, i.bytes)) = some (some z, sz, bytes)) (hzs : z.cells.size = sz) (hsz : 0 < sz)
    (lo : Nat) (v : Value) (n : Nat) (xs : List Value) (hs : a.eval s = v) (hown : w.ownsRow lo e sz v n xs) (B c T : Nat) (us : List Value) (hx : a.eval x = .slice (some ⟨B, 0, none⟩) 1 c) (hb : Box w B T us.toArray) (hl : us.length = sz) (hu : ∀ u ∈ us, u.oneCell' = true)
    (hn : n < 9223372036854775807) (hbytes : (n + 1) * bytes ≤ 140737488355328) (hlo : lo ≤ w.heap.size)
    (h : ∀ g cap w', w'.ownsRow lo e sz (.slice (some ⟨g, 0, none⟩) (n + 1) cap) (n + 1) (xs ++ us) → w.grownBy w' v.ownBlock → (v.ownBlock = some g ∨ g = w.heap.size) → g < w'.heap.size →
      wpList P ops Q rest (a.put o.dst (.slice (some ⟨g, 0, none⟩) (n + 1) cap)) w') : wpList P ops Q (o :: rest) a w := by
  obtain ⟨i, hi, hzz⟩ := Option.map_eq_some_iff.1 hinfo
  simp only [Prod.mk.injEq] at hzz
  obtain ⟨hz0, hz1, hz2⟩ := hzz
  exact wpList_append_lies w hgd s x t ho lo e i z sz bytes ht hi hz0 hz1 hz2 hzs hsz v n xs hs hown ⟨B, 0, none⟩ 1 c us hx (by omega) (by have := World.news_of_block hb; simpa using this) hu
    (by omega) (by simp [maxLen]; omega) hbytes hlo w.heap.size rfl h

set_option maxHeartbeats 800000 in
theorem sPart_c (v1 v2 : Value) (s : List Vr) (vars : List Int) (w : World) (h1 : Vrs w v1 s) (h2 : Ints w v2 vars) (hs : SchP s) (hr : Rising (s.length : Int) vars) :
    Calls Try.prog 53 #[v1, v2] w fun e w' => ∃ v', e = .returned v' ∧ Vrs w' v' (partL s vars) ∧ Ext w w' := by
  obtain ⟨a1, c1, rfl, e1, e2, g1⟩ := h1
  obtain ⟨a2, c2, rfl, e3, e4, g2⟩ := h2
  have G1 := Lib.hid g1; clear g1
  have G2 := Lib.hid g2; clear g2
  have h6 := rising_six hs hr
  have HK := Lib.hid (And.intro hs hr); clear hs hr
  go_enter Try.func53, Try.ntmps53
  go_wp2
  go_loopw [5, 10] (fun r i wr => ∃ k : Nat, k ≤ vars.length ∧ i = .int .i64 k ∧ VRow w.heap.size wr r (partL s (vars.take k)) ∧ Ext w wr) (fun _ i _ => vars.length - (intOf i).toNat)
  case atStart => exact ⟨0, Nat.zero_le _, rfl, by simpa [partL] using VRow.nil, Ext.refl w⟩
  case round =>
    obtain ⟨k, hk, rfl, hr, hx⟩ := hrel
    obtain ⟨wo, rfl⟩ : ∃ wo : World, wo = wr := ⟨_, rfl⟩
    have HR := Lib.hid hr; clear hr
    by_cases hlt : k < vars.length
    · obtain ⟨b2, o2, rfl, hc⟩ := G2.out k hlt
      have hc' := Ext.cell hx hc
      obtain ⟨i, ei, hi1, hlv⟩ := rising_at HK.out.1 HK.out.2 hlt
      have HE : Hid ((ix vars k).toNat = i) := Lib.hid (by omega)
      rw [ei] at hc'
      obtain ⟨b1, o1, rfl, hd0, hd1⟩ := (G1.out.ext hx).at_ hi1
      have HPT := Lib.hid (partL_take (s := s) hlt)
      rw [HE.out] at HPT
      clear ei hc
      obtain ⟨nm, hnm⟩ : ∃ nm, (vrAt s i).name = nm := ⟨_, rfl⟩
      obtain ⟨lv, hlv'⟩ : ∃ lv, (vrAt s i).lev = lv := ⟨_, rfl⟩
      have HVE : Hid (vrAt s i = ⟨nm, lv⟩) := Lib.hid (by rw [← hnm, ← hlv'])
      rw [hnm] at hd0
      rw [hlv'] at hd1 hlv
      clear hnm hlv'
      have hlen : (partL s (vars.take k)).length = k := by simp [partL]; omega
      have hown := HR.out.ext ((Ext.refl wo).alloc (.cells #[.string nm, .int .i64 lv] 67))
      have HOWN := Lib.hid hown
      unfold VRow at hown
      rw [hlen] at hown
      have HOW2 := Lib.hid hown; clear hown
      have HLEN := Lib.hid hlen; clear hlen
      have hs := hx.size
      go_wp2_with (at_builtin; go_loud (refine appN _ rfl _ _ 35 67 rfl (.agg #[.string ByteArray.empty, .int .i64 0]) 2 24 Try.underlying35 info_variable rfl (by decide) w.heap.size _ k _ rfl HOW2.out wo.heap.size 1 67 [.string nm, .int .i64 lv] rfl (Box.new _ _ _ rfl) rfl (by simp [Value.oneCell']) (by omega) (by omega) (by simp; omega) ?_))
      intro g cp w3 hown3 hgrow hat hlt3
      have hx3 := HOWN.out.grew (hx.alloc _) (Nat.le_refl _) hgrow
      have HO3 := Lib.hid hown3; clear hown3
      have HX3 := Lib.hid hx3; clear hx3
      clear hgrow
      go_wp2
      go_roundw
      case rel => exact ⟨k + 1, by omega, by go_num, by rw [HPT.out, HVE.out]; exact VRow.push (by rw [HLEN.out]; exact HO3.out), HX3.out⟩
      case measure => simp [intOf]; omega
    · have hkl : vars.take k = vars := List.take_of_length_le (by omega)
      have HKL := Lib.hid hkl; clear hkl
      go_wp2
      go_ret
      refine ⟨_, rfl, ?_, hx⟩
      have := HR.out.read
      rwa [HKL.out] at this
set_option maxHeartbeats 1000000 in
theorem crossed_c (v1 v2 : Value) (s : List Vr) (t : Ta) (w : World) (h1 : Vrs w v1 s) (h2 : TaR w v2 t) (hs : SchP s) (hr : Rising (s.length : Int) t.vars) :
    Calls Try.prog 89 #[v1, v2] w fun e w' => ∃ v', e = .returned v' ∧ Vrs w' v' (partL s t.vars) ∧ Ext w w' := by
  obtain ⟨a1, c1, rfl, e1, e2, g1⟩ := h1
  obtain ⟨x1, x2, rfl, i1, i2⟩ := h2
  obtain ⟨a2, c2, rfl, p1, p2, g2⟩ := i1
  clear i2
  have h6 := rising_six hs hr
  have HK := Lib.hid (And.intro hs hr); clear hs hr
  obtain ⟨A, hA⟩ : ∃ A, t.level = A := ⟨_, rfl⟩
  obtain ⟨B, hB⟩ : ∃ B, t.sum = B := ⟨_, rfl⟩
  obtain ⟨vars, hv⟩ : ∃ vars, t.vars = vars := ⟨_, rfl⟩
  rw [hA, hB]
  rw [hv] at g2 p1 HK h6 ⊢
  clear hA hB hv
  obtain ⟨n, hn⟩ : ∃ n, vars.length = n := ⟨_, rfl⟩
  rw [hn] at p1 h6 ⊢
  have HN := Lib.hid hn; clear hn
  have G1 := Lib.hid g1; clear g1
  have G2 := Lib.hid g2; clear g2
  have u0 := (Ext.refl w).alloc (.cells #[.int .i64 A, .slice a2 n c2, x2, .int .i64 B] 56)
  have b0 := Box.new w 56 #[.int .i64 A, .slice a2 n c2, x2, .int .i64 B] rfl
  have k1 := b0.cell 1 (by simp)
  have hmk := run_make_wide (P := Try.prog) 35 67 (.agg #[.string ByteArray.empty, .int .i64 0]) 2 24 Try.underlying35 info_variable .i64 .i64 n (by omega) (by omega)
  have hst := rowIs_made_wide (w.alloc (.cells #[.int .i64 A, .slice a2 n c2, x2, .int .i64 B] 56)) (Value.agg #[.string ByteArray.empty, .int .i64 0]).cells (n * 2) 67
  rw [show (w.alloc (.cells #[.int .i64 A, .slice a2 n c2, x2, .int .i64 B] 56)).heap.size = w.heap.size + 1 from by simp] at hst
  obtain ⟨Z, hZ⟩ : ∃ Z, (Value.agg #[.string ByteArray.empty, .int .i64 0]).cells = Z := ⟨_, rfl⟩
  rw [hZ] at hst
  simp only [hZ] at hmk
  clear hZ
  obtain ⟨f0, hf0⟩ : ∃ f : Nat → Value, (fun i => Z[i % Z.size]!) = f := ⟨_, rfl⟩
  rw [hf0] at hst
  clear hf0
  have HST := Lib.hid hst; clear hst
  go_enter Try.func89, Try.ntmps89
  go_wp2_with fail
  go_loopw [15] (fun i wr => ∃ k : Nat, k ≤ n ∧ i = .int .i64 k ∧ wr.rowIs (w.heap.size + 1) 67 (n * 2) (fun j => if j < k * 2 then vrCell (partL s vars) j else f0 j) ∧ Ext w wr) (fun i _ => n - (intOf i).toNat)
  case atStart => exact ⟨0, Nat.zero_le _, rfl, HST.out.congr (fun j _ => by simp), u0.alloc _⟩
  case round =>
    clear HST hmk
    obtain ⟨k, hk, rfl, hrow, hx⟩ := hrel
    have HR := Lib.hid hrow; clear hrow
    by_cases hlt : k < n
    · obtain ⟨b2, o2, rfl, hc⟩ := G2.out k (by rw [HN.out]; exact hlt)
      have hc' := Ext.cell hx hc
      obtain ⟨i, ei, hi1, hlv⟩ := rising_at HK.out.1 HK.out.2 (k := k) (by rw [HN.out]; exact hlt)
      rw [ei] at hc'
      obtain ⟨b1, o1, rfl, hd0, hd1⟩ := (G1.out.ext hx).at_ hi1
      have HVE : Hid (vrAt (partL s vars) k = vrAt s i) := Lib.hid (by rw [partL_at (by rw [HN.out]; exact hlt), ei]; rfl)
      clear ei hc
      obtain ⟨nm, hnm⟩ : ∃ nm, (vrAt s i).name = nm := ⟨_, rfl⟩
      obtain ⟨lv, hlv'⟩ : ∃ lv, (vrAt s i).lev = lv := ⟨_, rfl⟩
      have HV : Hid (vrAt (partL s vars) k = ⟨nm, lv⟩) := Lib.hid (by rw [HVE.out, ← hnm, ← hlv'])
      rw [hnm] at hd0
      rw [hlv'] at hd1 hlv
      clear hnm hlv' HVE
      have hfr0 := HR.out.frozen (k * 2)
      have hfr1 := HR.out.frozen (k * 2 + 1)
      have hcell0 := HR.out.cell (i := k * 2) (by omega)
      have hcell1 := HR.out.cell (i := k * 2 + 1) (by omega)
      have hk1 : (i : Int) < (s.length : Int) := by omega
      go_wp2
      go_roundw
      case rel =>
        refine ⟨k + 1, by omega, by go_num, ((HR.out.set (k * 2) _).set (k * 2 + 1) _).congr (fun j hj => ?_), (hx.setCell _ (by simp)).setCell _ (by simp)⟩
        by_cases e1 : j = k * 2 + 1
        · subst e1
          rw [if_pos rfl, if_pos (by omega), vrCell1, HV.out]
        · rw [if_neg e1]
          by_cases e0 : j = k * 2
          · subst e0
            rw [if_pos rfl, if_pos (by omega), vrCell0, HV.out]
          · rw [if_neg e0]
            have : (j < (k + 1) * 2) = (j < k * 2) := by apply propext; omega
            simp [this]
      case measure => simp [intOf]; omega
    · have hkl : k = n := by omega
      have HKL := Lib.hid hkl; clear hkl
      go_wp2
      go_ret
      have hl := (partL_len s vars).trans HN.out
      refine ⟨_, rfl, ⟨some ⟨w.heap.size + 1, 0, none⟩, n, (by rw [hl]; rfl), by rw [hl]; exact Nat.le_refl _, by omega, ?_⟩, hx⟩
      have := (OwnC.of_rowIs (lo := 0) (HR.out.congr (g := vrCell (partL s vars)) (fun j hj => by rw [if_pos (by have := HKL.out; omega)])) (Nat.zero_le _) HR.out.lt).cells
      unfold VrsA
      rw [hl]
      exact this
set_option maxHeartbeats 800000 in
theorem sCount_c (v : Value) (l : List Vr) (w : World) (h : Vrs w v l) (hl : LevP l) :
    Calls Try.prog 58 #[v] w fun e w' => e = .returned (.int .i64 (cntL l)) ∧ Ext w w' := by
  obtain ⟨a1, c1, rfl, e1, e2, g1⟩ := h
  have G1 := Lib.hid g1; clear g1
  have h6 := hl.1
  have HL := Lib.hid hl; clear hl
  go_enter Try.func58, Try.ntmps58
  go_wp2_with fail
  go_loopw [3, 8] (fun r i wr => ∃ k : Nat, k ≤ l.length ∧ i = .int .i64 k ∧ r = .int .i64 (cntTo l k) ∧ Ext w wr) (fun _ i _ => l.length - (intOf i).toNat)
  case atStart => exact ⟨0, Nat.zero_le _, rfl, rfl, Ext.refl w⟩
  case round =>
    obtain ⟨k, hk, rfl, rfl, hx⟩ := hrel
    obtain ⟨wo, rfl⟩ : ∃ wo : World, wo = wr := ⟨_, rfl⟩
    by_cases hlt : k < l.length
    · obtain ⟨b1, o1, rfl, hd0, hd1⟩ := (G1.out.ext hx).at_ hlt
      have hb := cntTo_lt HL.out k hk
      have hb2 := cntTo_lt HL.out (k + 1) (by omega)
      have HKT : Hid (cntTo l (k + 1) = cntTo l k * (vrAt l k).lev) := Lib.hid rfl
      have hlv := HL.out.2 k hlt
      obtain ⟨nm, hnm⟩ : ∃ nm, (vrAt l k).name = nm := ⟨_, rfl⟩
      obtain ⟨lv, hlv'⟩ : ∃ lv, (vrAt l k).lev = lv := ⟨_, rfl⟩
      obtain ⟨K, hKe⟩ : ∃ K, cntTo l k = K := ⟨_, rfl⟩
      obtain ⟨K2, hKe2⟩ : ∃ K, cntTo l (k + 1) = K := ⟨_, rfl⟩
      rw [hnm] at hd0
      rw [hlv'] at hd1 hlv HKT
      rw [hKe] at hb HKT ⊢
      rw [hKe2] at hb2 HKT
      have HK2 := Lib.hid hKe2
      clear hnm hlv' hKe hKe2
      have hw1 : IntKind.i64.wrap (K * lv) = K2 := by rw [← HKT.out]; exact IntWalk.i64_in _ (by omega)
      have bx := Box.new wo 67 #[.string nm, .int .i64 lv] rfl
      have k1 := bx.cell 1 (by simp)
      go_wp2
      go_roundw
      case rel => exact ⟨k + 1, by omega, by go_num, by rw [HK2.out], hx.alloc _⟩
      case measure => simp [intOf]; omega
    · have hkl : k = l.length := by omega
      have HKL := Lib.hid hkl; clear hkl
      go_wp2
      go_ret
      exact ⟨ret_int (by rw [HKL.out]; rfl), hx⟩
set_option maxHeartbeats 800000 in
theorem combinations_c (v : Value) (l : List Vr) (w : World) (h : Vrs w v l) (hl : LevP l) :
    Calls Try.prog 88 #[v] w fun e w' => e = .returned (.int .i64 (cntL l)) ∧ Ext w w' := by
  obtain ⟨a1, c1, rfl, e1, e2, g1⟩ := h
  have G1 := Lib.hid g1; clear g1
  have h6 := hl.1
  have HL := Lib.hid hl; clear hl
  go_enter Try.func88, Try.ntmps88
  go_wp2_with fail
  go_loopw [3, 8] (fun r i wr => ∃ k : Nat, k ≤ l.length ∧ i = .int .i64 k ∧ r = .int .i64 (cntTo l k) ∧ Ext w wr) (fun _ i _ => l.length - (intOf i).toNat)
  case atStart => exact ⟨0, Nat.zero_le _, rfl, rfl, Ext.refl w⟩
  case round =>
    obtain ⟨k, hk, rfl, rfl, hx⟩ := hrel
    obtain ⟨wo, rfl⟩ : ∃ wo : World, wo = wr := ⟨_, rfl⟩
    by_cases hlt : k < l.length
    · obtain ⟨b1, o1, rfl, hd0, hd1⟩ := (G1.out.ext hx).at_ hlt
      have hb := cntTo_lt HL.out k hk
      have hb2 := cntTo_lt HL.out (k + 1) (by omega)
      have HKT : Hid (cntTo l (k + 1) = cntTo l k * (vrAt l k).lev) := Lib.hid rfl
      have hlv := HL.out.2 k hlt
      obtain ⟨nm, hnm⟩ : ∃ nm, (vrAt l k).name = nm := ⟨_, rfl⟩
      obtain ⟨lv, hlv'⟩ : ∃ lv, (vrAt l k).lev = lv := ⟨_, rfl⟩
      obtain ⟨K, hKe⟩ : ∃ K, cntTo l k = K := ⟨_, rfl⟩
      obtain ⟨K2, hKe2⟩ : ∃ K, cntTo l (k + 1) = K := ⟨_, rfl⟩
      rw [hnm] at hd0
      rw [hlv'] at hd1 hlv HKT
      rw [hKe] at hb HKT ⊢
      rw [hKe2] at hb2 HKT
      have HK2 := Lib.hid hKe2
      clear hnm hlv' hKe hKe2
      have hw1 : IntKind.i64.wrap (K * lv) = K2 := by rw [← HKT.out]; exact IntWalk.i64_in _ (by omega)
      have bx := Box.new wo 67 #[.string nm, .int .i64 lv] rfl
      have k1 := bx.cell 1 (by simp)
      go_wp2
      go_roundw
      case rel => exact ⟨k + 1, by omega, by go_num, by rw [HK2.out], hx.alloc _⟩
      case measure => simp [intOf]; omega
    · have hkl : k = l.length := by omega
      have HKL := Lib.hid hkl; clear hkl
      go_wp2
      go_ret
      exact ⟨ret_int (by rw [HKL.out]; rfl), hx⟩
set_option maxHeartbeats 1600000 in
theorem uCount_c (v1 v2 v3 : Value) (T : Ge) (s : List Vr) (t : Ta) (w : World) (h1 : GeR w v1 T) (h2 : Vrs w v2 s) (h3 : TaR w v3 t) (hg : GeoP T.par) (hs : SchP s) (hr : Rising (s.length : Int) t.vars) :
    Calls Try.prog 51 #[v1, v2, v3] w fun e w' => e = .returned (.int .i64 (uCnt T.par s t)) ∧ Ext w w' := by
  have HB := Lib.hid (uCnt_bound hg hs hr)
  have HO := Lib.hid (And.intro hg (And.intro hs hr)); clear hg hs hr
  have R1 := Lib.hid h1
  have R2 := Lib.hid h2; clear h2
  have R3 := Lib.hid h3
  obtain ⟨y1, rfl, i1⟩ := h1
  clear i1
  obtain ⟨x1, x2, rfl, i1, i2⟩ := h3
  have I1 := Lib.hid i1; clear i1 i2
  obtain ⟨A, hA⟩ : ∃ A, t.level = A := ⟨_, rfl⟩
  obtain ⟨B, hB⟩ : ∃ B, t.sum = B := ⟨_, rfl⟩
  have HU : Hid (uCnt T.par s t = ((levL T.par A).length : Int) * cntL (partL s t.vars)) := Lib.hid (by rw [← hA]; rfl)
  rw [hA] at HB
  rw [hA, hB] at R3
  rw [hA, hB]
  clear hB hA
  obtain ⟨U, hU⟩ : ∃ U, uCnt T.par s t = U := ⟨_, rfl⟩
  obtain ⟨L, hL⟩ : ∃ L, (levL T.par A).length = L := ⟨_, rfl⟩
  obtain ⟨C, hC⟩ : ∃ C, cntL (partL s t.vars) = C := ⟨_, rfl⟩
  have hb := HB.out
  rw [hU, hL, hC] at hb
  rw [hU, hL, hC] at HU
  rw [hU]
  have HL := Lib.hid hL; clear hL
  have HC := Lib.hid hC; clear hC hU HB
  have hw1 : IntKind.i64.wrap ((L : Int) * C) = U := by rw [← HU.out]; exact IntWalk.i64_in _ (by omega)
  have u0 := ((Ext.refl w).alloc (.cells #[y1] 33)).alloc (.cells #[.int .i64 A, x1, x2, .int .i64 B] 56)
  have b1 := (Box.new w 33 #[y1] rfl).alloc (.cells #[.int .i64 A, x1, x2, .int .i64 B] 56)
  have b2 := Box.new (w.alloc (.cells #[y1] 33)) 56 #[.int .i64 A, x1, x2, .int .i64 B] (b := w.heap.size + 1) (by simp)
  have R1 := Lib.hid (R1.out.ext u0)
  have R2 := Lib.hid (R2.out.ext u0)
  have R3 := Lib.hid (R3.out.ext u0)
  have I1 := Lib.hid (I1.out.ext u0)
  go_enter Try.func51, Try.ntmps51
  go_wp2_with fail
  obtain ⟨wq, hwq⟩ : ∃ wq, wq = (w.alloc (.cells #[y1] 33)).alloc (.cells #[.int .i64 A, x1, x2, .int .i64 B] 56) := ⟨_, rfl⟩
  rw [← hwq] at u0 b1 b2 R1 R2 R3 I1 ⊢
  clear hwq
  have c1 := b1.cell 0 (by simp)
  have d0 := b2.cell 0 (by simp)
  have d1 := b2.cell 1 (by simp)
  have d2 := b2.cell 2 (by simp)
  have d3 := b2.cell 3 (by simp)
  have hMK : ∀ x, Ext wq x → (Ext wq x ∧ x.cell? ⟨w.heap.size, 0, none⟩ = some y1 ∧ x.cell? ⟨w.heap.size + 1, 0, none⟩ = some (.int .i64 A) ∧ x.cell? ⟨w.heap.size + 1, 1, none⟩ = some x1 ∧ x.cell? ⟨w.heap.size + 1, 2, none⟩ = some x2 ∧ x.cell? ⟨w.heap.size + 1, 3, none⟩ = some (.int .i64 B)) := fun x e => ⟨e, e.cell c1, e.cell d0, e.cell d1, e.cell d2, e.cell d3⟩
  have MK := Lib.hid hMK; clear hMK
  go_region_held3 (fun x => Ext wq x ∧ x.cell? ⟨w.heap.size, 0, none⟩ = some y1 ∧ x.cell? ⟨w.heap.size + 1, 0, none⟩ = some (.int .i64 A) ∧ x.cell? ⟨w.heap.size + 1, 1, none⟩ = some x1 ∧ x.cell? ⟨w.heap.size + 1, 2, none⟩ = some x2 ∧ x.cell? ⟨w.heap.size + 1, 3, none⟩ = some (.int .i64 B))
    (first | exact MK.out _ (Ext.refl _).drew | exact MK.out _ (((((Ext.refl _).drew).trans u6).trans u7).trans u8) | exact MK.out _ ((((Ext.refl _).drew).trans u6).trans u7) | exact MK.out _ (((Ext.refl _).drew).trans u6))
    ((first
      | (go_at_call 52; (with_reducible refine (gLevel_c _ T A _ (R1.out.ext (Ext.refl _).drew) HO.out.1).mono ?_); rintro e w6 ⟨z6, rfl, i6, u6⟩; obtain ⟨a6, c6, rfl, _, _, _⟩ := i6; rw [HL.out])
      | (go_at_call 53; (with_reducible refine (sPart_c _ _ s t.vars _ (R2.out.ext ((Ext.refl _).drew.trans u6)) (I1.out.ext ((Ext.refl _).drew.trans u6)) HO.out.2.1 HO.out.2.2).mono ?_); rintro e w7 ⟨z7, rfl, i7, u7⟩)
      | (go_at_call 58; (with_reducible refine (sCount_c _ (partL s t.vars) _ i7 (partL_lev HO.out.2.1 HO.out.2.2)).mono ?_); rw [HC.out]; rintro e w8 ⟨rfl, u8⟩)))
  all_goals
    go_wp2
    go_ret
    exact ⟨ret_int (by first | rfl | exact hw1), ((((u0.trans (Ext.refl _).drew)).trans u6).trans u7).trans u8⟩
set_option maxHeartbeats 1600000 in
theorem cellCount_c (v1 v2 v3 : Value) (T : Ge) (s : List Vr) (t : Ta) (w : World) (h1 : GeR w v1 T) (h2 : Vrs w v2 s) (h3 : TaR w v3 t) (hg : GeoP T.par) (hs : SchP s) (hr : Rising (s.length : Int) t.vars) :
    Calls Try.prog 64 #[v1, v2, v3] w fun e w' => e = .returned (.int .i64 (uCnt T.par s t)) ∧ Ext w w' := by
  have HB := Lib.hid (uCnt_bound hg hs hr)
  have HO := Lib.hid (And.intro hg (And.intro hs hr)); clear hg hs hr
  have R1 := Lib.hid h1
  have R2 := Lib.hid h2; clear h2
  have R3 := Lib.hid h3
  obtain ⟨y1, rfl, i1⟩ := h1
  clear i1
  obtain ⟨x1, x2, rfl, i1, i2⟩ := h3
  have I1 := Lib.hid i1; clear i1 i2
  obtain ⟨A, hA⟩ : ∃ A, t.level = A := ⟨_, rfl⟩
  obtain ⟨B, hB⟩ : ∃ B, t.sum = B := ⟨_, rfl⟩
  have HU : Hid (uCnt T.par s t = ((levL T.par A).length : Int) * cntL (partL s t.vars)) := Lib.hid (by rw [← hA]; rfl)
  rw [hA] at HB
  rw [hA, hB] at R3
  rw [hA, hB]
  clear hB hA
  obtain ⟨U, hU⟩ : ∃ U, uCnt T.par s t = U := ⟨_, rfl⟩
  obtain ⟨L, hL⟩ : ∃ L, (levL T.par A).length = L := ⟨_, rfl⟩
  obtain ⟨C, hC⟩ : ∃ C, cntL (partL s t.vars) = C := ⟨_, rfl⟩
  have hb := HB.out
  rw [hU, hL, hC] at hb
  rw [hU, hL, hC] at HU
  rw [hU]
  have HL := Lib.hid hL; clear hL
  have HC := Lib.hid hC; clear hC hU HB
  have hw1 : IntKind.i64.wrap ((L : Int) * C) = U := by rw [← HU.out]; exact IntWalk.i64_in _ (by omega)
  have u0 := ((Ext.refl w).alloc (.cells #[y1] 33)).alloc (.cells #[.int .i64 A, x1, x2, .int .i64 B] 56)
  have b1 := (Box.new w 33 #[y1] rfl).alloc (.cells #[.int .i64 A, x1, x2, .int .i64 B] 56)
  have b2 := Box.new (w.alloc (.cells #[y1] 33)) 56 #[.int .i64 A, x1, x2, .int .i64 B] (b := w.heap.size + 1) (by simp)
  have R1 := Lib.hid (R1.out.ext u0)
  have R2 := Lib.hid (R2.out.ext u0)
  have R3 := Lib.hid (R3.out.ext u0)
  have I1 := Lib.hid (I1.out.ext u0)
  go_enter Try.func64, Try.ntmps64
  go_wp2_with fail
  obtain ⟨wq, hwq⟩ : ∃ wq, wq = (w.alloc (.cells #[y1] 33)).alloc (.cells #[.int .i64 A, x1, x2, .int .i64 B] 56) := ⟨_, rfl⟩
  rw [← hwq] at u0 b1 b2 R1 R2 R3 I1 ⊢
  clear hwq
  have c1 := b1.cell 0 (by simp)
  have d0 := b2.cell 0 (by simp)
  have d1 := b2.cell 1 (by simp)
  have d2 := b2.cell 2 (by simp)
  have d3 := b2.cell 3 (by simp)
  have hMK : ∀ x, Ext wq x → (Ext wq x ∧ x.cell? ⟨w.heap.size, 0, none⟩ = some y1 ∧ x.cell? ⟨w.heap.size + 1, 0, none⟩ = some (.int .i64 A) ∧ x.cell? ⟨w.heap.size + 1, 1, none⟩ = some x1 ∧ x.cell? ⟨w.heap.size + 1, 2, none⟩ = some x2 ∧ x.cell? ⟨w.heap.size + 1, 3, none⟩ = some (.int .i64 B)) := fun x e => ⟨e, e.cell c1, e.cell d0, e.cell d1, e.cell d2, e.cell d3⟩
  have MK := Lib.hid hMK; clear hMK
  go_region_held3 (fun x => Ext wq x ∧ x.cell? ⟨w.heap.size, 0, none⟩ = some y1 ∧ x.cell? ⟨w.heap.size + 1, 0, none⟩ = some (.int .i64 A) ∧ x.cell? ⟨w.heap.size + 1, 1, none⟩ = some x1 ∧ x.cell? ⟨w.heap.size + 1, 2, none⟩ = some x2 ∧ x.cell? ⟨w.heap.size + 1, 3, none⟩ = some (.int .i64 B))
    (first | exact MK.out _ (Ext.refl _).drew | exact MK.out _ (((((Ext.refl _).drew).trans u6).trans u7).trans u8) | exact MK.out _ ((((Ext.refl _).drew).trans u6).trans u7) | exact MK.out _ (((Ext.refl _).drew).trans u6))
    ((first
      | (go_at_call 87; (with_reducible refine (areasAt_c _ T A _ (R1.out.ext (Ext.refl _).drew) HO.out.1).mono ?_); rintro e w6 ⟨z6, rfl, i6, u6⟩; obtain ⟨a6, c6, rfl, _, _, _⟩ := i6; rw [HL.out])
      | (go_at_call 89; (with_reducible refine (crossed_c _ _ s t _ (R2.out.ext ((Ext.refl _).drew.trans u6)) (R3.out.ext ((Ext.refl _).drew.trans u6)) HO.out.2.1 HO.out.2.2).mono ?_); rintro e w7 ⟨z7, rfl, i7, u7⟩)
      | (go_at_call 88; (with_reducible refine (combinations_c _ (partL s t.vars) _ i7 (partL_lev HO.out.2.1 HO.out.2.2)).mono ?_); rw [HC.out]; rintro e w8 ⟨rfl, u8⟩)))
  all_goals
    go_wp2
    go_ret
    exact ⟨ret_int (by first | rfl | exact hw1), ((((u0.trans (Ext.refl _).drew)).trans u6).trans u7).trans u8⟩
end Go.Proofs.Ytolmmhdeebgglaa
