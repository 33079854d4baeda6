/- Variables and records: how slices of them are read. No program in sight. -/
import Derived.Test.YtolmmhdeebgglaaCls
import Derived.Test.YtolmmhdeebgglaaSep
namespace Go.Proofs.Ytolmmhdeebgglaa
open Go.RowKit

/-- a variable: its name, its number of levels -/
structure Vr where
  name : ByteArray
  lev : Int
noncomputable instance instDecVr : DecidableEq Vr := fun _ _ => Classical.propDecidable _
def vr0 : Vr := ⟨ByteArray.empty, 0⟩
def vrAt (s : List Vr) (k : Nat) : Vr := s.getD k vr0
theorem vrAt_eq {s : List Vr} {k : Nat} (h : k < s.length) : vrAt s k = s[k] := by simp [vrAt, List.getD, h]
theorem vrAt_mem {s : List Vr} {k : Nat} (h : k < s.length) : vrAt s k ∈ s := by rw [vrAt_eq h]; exact List.getElem_mem h
theorem list_ext_vr {s t : List Vr} (hl : s.length = t.length) (h : ∀ k, k < s.length → vrAt s k = vrAt t k) : s = t := by
  apply List.ext_getElem hl
  intro i h1 h2
  have := h i h1
  rwa [vrAt_eq h1, vrAt_eq h2] at this
/-- the cells of the variables -/
def vrCell (s : List Vr) (i : Nat) : Value := if i % 2 = 0 then .string (vrAt s (i / 2)).name else .int .i64 (vrAt s (i / 2)).lev
theorem vrCell0 (s : List Vr) (k : Nat) : vrCell s (k * 2) = .string (vrAt s k).name := by simp [vrCell]
theorem vrCell1 (s : List Vr) (k : Nat) : vrCell s (k * 2 + 1) = .int .i64 (vrAt s k).lev := by
  have h1 : (k * 2 + 1) % 2 = 1 := by omega
  have h2 : (k * 2 + 1) / 2 = k := by omega
  simp [vrCell, h1, h2]
def VrsA (w : World) (ao : Option Addr) (s : List Vr) : Prop := CellsA w ao (s.length * 2) (vrCell s)
/-- the slice value v reads as the variables s -/
def Vrs (w : World) (v : Value) (s : List Vr) : Prop := ∃ ao cap, v = .slice ao s.length cap ∧ s.length ≤ cap ∧ cap ≤ 9223372036854775807 ∧ VrsA w ao s
def WfV (s : List Vr) : Prop := ∀ x ∈ s, (-9223372036854775808 ≤ x.lev ∧ x.lev ≤ 9223372036854775807) ∧ x.name.size ≤ 9223372036854775807
theorem VrsA.at_ {w : World} {ao : Option Addr} {s : List Vr} (h : VrsA w ao s) {k : Nat} (hk : k < s.length) :
    ∃ b o, ao = some ⟨b, o, none⟩ ∧ w.cell? ⟨b, o + k * 2, none⟩ = some (.string (vrAt s k).name) ∧ w.cell? ⟨b, o + k * 2 + 1, none⟩ = some (.int .i64 (vrAt s k).lev) := by
  obtain ⟨b, o, rfl, h0⟩ := h (k * 2) (by omega)
  obtain ⟨b', o', e, h1⟩ := h (k * 2 + 1) (by omega)
  simp only [Option.some.injEq, Addr.mk.injEq, and_true] at e
  obtain ⟨rfl, rfl⟩ := e
  rw [vrCell0] at h0
  rw [vrCell1, ← Nat.add_assoc] at h1
  exact ⟨b, o, rfl, h0, h1⟩
theorem VrsA.ext {w w' : World} {ao : Option Addr} {s : List Vr} (h : VrsA w ao s) (u : Ext w w') : VrsA w' ao s := CellsA.ext h u
theorem Vrs.ext {w w' : World} {v : Value} {s : List Vr} (h : Vrs w v s) (u : Ext w w') : Vrs w' v s := by
  obtain ⟨ao, cap, rfl, h1, h2, h3⟩ := h
  exact ⟨ao, cap, rfl, h1, h2, h3.ext u⟩
theorem Vrs.nil (w : World) : Vrs w (.slice none 0 0) [] := ⟨none, 0, rfl, Nat.le_refl _, by omega, fun k hk => by simp at hk⟩

/-- v reads as s, in a block of its own of type T -/
def OwnV (T lo hi : Nat) (w : World) (v : Value) (s : List Vr) : Prop := ∃ ao cap, v = .slice ao s.length cap ∧ s.length ≤ cap ∧ cap ≤ 9223372036854775807 ∧ OwnC T lo hi w ao (s.length * 2) (vrCell s)
def VB (v : Value) (s : List Vr) (b : Nat) : Prop := s ≠ [] ∧ b = blk v
namespace OwnV
variable {T lo hi lo' hi' : Nat} {S : Nat → Prop} {w w' : World} {v : Value} {s : List Vr}
theorem read (h : OwnV T lo hi w v s) : Vrs w v s := by
  obtain ⟨ao, cap, rfl, h1, h2, h3⟩ := h
  exact ⟨ao, cap, rfl, h1, h2, h3.cells⟩
theorem upd (h : OwnV T lo hi w v s) (u : Upd S w w') (hs : s ≠ [] → ¬ S (blk v)) : OwnV T lo hi w' v s := by
  obtain ⟨ao, cap, rfl, h1, h2, h3⟩ := h
  exact ⟨ao, cap, rfl, h1, h2, h3.upd u (fun hn => hs (by intro e; subst e; simp at hn))⟩
theorem ext (h : OwnV T lo hi w v s) (u : Ext w w') : OwnV T lo hi w' v s := h.upd u (fun _ s => s)
theorem mono (h : OwnV T lo hi w v s) (h1 : lo' ≤ lo) (h2 : hi ≤ hi') : OwnV T lo' hi' w v s := by
  obtain ⟨ao, cap, rfl, e1, e2, h3⟩ := h
  exact ⟨ao, cap, rfl, e1, e2, h3.mono h1 h2⟩
theorem range (h : OwnV T lo hi w v s) (hx : s ≠ []) : lo ≤ blk v ∧ blk v < hi ∧ blk v < w.heap.size := by
  obtain ⟨ao, cap, rfl, e1, e2, h3⟩ := h
  exact h3.range (by intro e; exact hx (List.eq_nil_of_length_eq_zero (by omega)))
theorem away (h : OwnV T lo hi w v s) (u : Upd S w w') (hs : ∀ b, S b → b < lo ∨ hi ≤ b) : OwnV T lo hi w' v s :=
  h.upd u (fun hx s => by have := hs _ s; have := h.range hx; omega)
end OwnV

/-- a record: its area, its house, its values -/
structure Pe where
  area : Int
  house : Int
  vals : List Int
noncomputable instance instDecPe : DecidableEq Pe := fun _ _ => Classical.propDecidable _
def pe0 : Pe := ⟨0, 0, []⟩
def peAt (l : List Pe) (k : Nat) : Pe := l.getD k pe0
theorem peAt_eq {l : List Pe} {k : Nat} (h : k < l.length) : peAt l k = l[k] := by simp [peAt, List.getD, h]
theorem peAt_mem {l : List Pe} {k : Nat} (h : k < l.length) : peAt l k ∈ l := by rw [peAt_eq h]; exact List.getElem_mem h
theorem list_ext_pe {s t : List Pe} (hl : s.length = t.length) (h : ∀ k, k < s.length → peAt s k = peAt t k) : s = t := by
  apply List.ext_getElem hl
  intro i h1 h2
  have := h i h1
  rwa [peAt_eq h1, peAt_eq h2] at this
theorem take_succ_pe {xs : List Pe} {k : Nat} (h : k < xs.length) : xs.take (k + 1) = xs.take k ++ [peAt xs k] := by
  rw [peAt_eq h, List.take_succ_eq_append_getElem h]
/-- one record, as a value -/
def PeR (w : World) (v : Value) (r : Pe) : Prop := ∃ rv, v = .agg #[.int .i64 r.area, .int .i64 r.house, rv] ∧ Ints w rv r.vals
theorem PeR.ext {w w' : World} {v : Value} {r : Pe} (h : PeR w v r) (u : Ext w w') : PeR w' v r := by
  obtain ⟨rv, rfl, h1⟩ := h
  exact ⟨rv, rfl, h1.ext u⟩
def WfPe (r : Pe) : Prop := (-9223372036854775808 ≤ r.area ∧ r.area ≤ 9223372036854775807) ∧ (-9223372036854775808 ≤ r.house ∧ r.house ≤ 9223372036854775807) ∧ Wf r.vals
def WfP (l : List Pe) : Prop := ∀ r ∈ l, WfPe r
/-- at ao the records l are read -/
def PesA (w : World) (ao : Option Addr) (l : List Pe) : Prop :=
  ∀ k, k < l.length → ∃ b o rv, ao = some ⟨b, o, none⟩ ∧ w.cell? ⟨b, o + k * 3, none⟩ = some (.int .i64 (peAt l k).area) ∧ w.cell? ⟨b, o + k * 3 + 1, none⟩ = some (.int .i64 (peAt l k).house) ∧
    w.cell? ⟨b, o + k * 3 + 2, none⟩ = some rv ∧ Ints w rv (peAt l k).vals
def Pes (w : World) (v : Value) (l : List Pe) : Prop := ∃ ao cap, v = .slice ao l.length cap ∧ l.length ≤ cap ∧ cap ≤ 9223372036854775807 ∧ PesA w ao l
theorem PesA.ext {w w' : World} {ao : Option Addr} {l : List Pe} (h : PesA w ao l) (u : Ext w w') : PesA w' ao l := by
  intro k hk
  obtain ⟨b, o, rv, rfl, h0, h1, h2, h3⟩ := h k hk
  exact ⟨b, o, rv, rfl, u.cell h0, u.cell h1, u.cell h2, h3.ext u⟩
theorem Pes.ext {w w' : World} {v : Value} {l : List Pe} (h : Pes w v l) (u : Ext w w') : Pes w' v l := by
  obtain ⟨ao, cap, rfl, h1, h2, h3⟩ := h
  exact ⟨ao, cap, rfl, h1, h2, h3.ext u⟩
theorem PesA.at_ {w : World} {ao : Option Addr} {l : List Pe} (h : PesA w ao l) {k : Nat} (hk : k < l.length) :
    ∃ b o ar cr, ao = some ⟨b, o, none⟩ ∧ w.cell? ⟨b, o + k * 3, none⟩ = some (.int .i64 (peAt l k).area) ∧ w.cell? ⟨b, o + k * 3 + 1, none⟩ = some (.int .i64 (peAt l k).house) ∧
    w.cell? ⟨b, o + k * 3 + 2, none⟩ = some (.slice ar (peAt l k).vals.length cr) ∧ (peAt l k).vals.length ≤ cr ∧ cr ≤ 9223372036854775807 ∧ IntsA w ar (peAt l k).vals := by
  obtain ⟨b, o, rv, rfl, h0, h1, h2, ar, cr, rfl, h4, h5, h6⟩ := h k hk
  exact ⟨b, o, ar, cr, rfl, h0, h1, h2, h4, h5, h6⟩
theorem Pes.nil (w : World) : Pes w (.slice none 0 0) [] := ⟨none, 0, rfl, Nat.le_refl _, by omega, fun k hk => by simp at hk⟩

/-- the cells of the records, the slices' values beside -/
def peCell (rvs : List Value) (l : List Pe) (i : Nat) : Value :=
  if i % 3 = 0 then .int .i64 (peAt l (i / 3)).area else if i % 3 = 1 then .int .i64 (peAt l (i / 3)).house else rvAt rvs (i / 3)
theorem peCell0 (rvs : List Value) (l : List Pe) (k : Nat) : peCell rvs l (k * 3) = .int .i64 (peAt l k).area := by simp [peCell]
theorem peCell1 (rvs : List Value) (l : List Pe) (k : Nat) : peCell rvs l (k * 3 + 1) = .int .i64 (peAt l k).house := by
  have h1 : (k * 3 + 1) % 3 = 1 := by omega
  have h2 : (k * 3 + 1) / 3 = k := by omega
  simp [peCell, h1, h2]
theorem peCell2 (rvs : List Value) (l : List Pe) (k : Nat) : peCell rvs l (k * 3 + 2) = rvAt rvs k := by
  have h1 : (k * 3 + 2) % 3 = 2 := by omega
  have h2 : (k * 3 + 2) / 3 = k := by omega
  simp [peCell, h1, h2]
/-- records at ao in a block of their own of type T, each one's values in a block of its own -/
structure OwnPA (T lo hi : Nat) (w : World) (ao : Option Addr) (rvs : List Value) (l : List Pe) : Prop where
  len : rvs.length = l.length
  spine : OwnC T lo hi w ao (l.length * 3) (peCell rvs l)
  row : ∀ k, k < l.length → Own lo hi w (rvAt rvs k) (peAt l k).vals
  diff : ∀ j k, j < l.length → k < l.length → j ≠ k → (peAt l j).vals ≠ [] → (peAt l k).vals ≠ [] → blk (rvAt rvs j) ≠ blk (rvAt rvs k)
def OwnP (T lo hi : Nat) (w : World) (v : Value) (rvs : List Value) (l : List Pe) : Prop :=
  ∃ ao cap, v = .slice ao l.length cap ∧ l.length ≤ cap ∧ cap ≤ 9223372036854775807 ∧ OwnPA T lo hi w ao rvs l
/-- the blocks of the values -/
def valBlks (rvs : List Value) (l : List Pe) : Nat → Prop := fun b => ∃ k, k < l.length ∧ (peAt l k).vals ≠ [] ∧ b = blk (rvAt rvs k)
def PB (v : Value) (rvs : List Value) (l : List Pe) (b : Nat) : Prop := (l ≠ [] ∧ b = blk v) ∨ valBlks rvs l b
namespace OwnPA
variable {T lo hi lo' hi' : Nat} {S : Nat → Prop} {w w' : World} {ao : Option Addr} {rvs : List Value} {l : List Pe}
theorem at_ (h : OwnPA T lo hi w ao rvs l) {k : Nat} (hk : k < l.length) :
    ∃ b o, ao = some ⟨b, o, none⟩ ∧ lo ≤ b ∧ b < hi ∧ b < w.heap.size ∧ w.cell? ⟨b, o + k * 3, none⟩ = some (.int .i64 (peAt l k).area) ∧ w.cell? ⟨b, o + k * 3 + 1, none⟩ = some (.int .i64 (peAt l k).house) ∧
    w.cell? ⟨b, o + k * 3 + 2, none⟩ = some (rvAt rvs k) ∧ w.frozen? ⟨b, o + k * 3, none⟩ = false ∧ w.frozen? ⟨b, o + k * 3 + 1, none⟩ = false ∧ w.frozen? ⟨b, o + k * 3 + 2, none⟩ = false := by
  obtain ⟨b, o, rfl, l1, l2, l3, hc, hf⟩ := h.spine.at_ (i := k * 3) (by omega)
  have h0 := hc (k * 3) (by omega)
  have h1 := hc (k * 3 + 1) (by omega)
  have h2 := hc (k * 3 + 2) (by omega)
  rw [peCell0] at h0
  rw [peCell1, ← Nat.add_assoc] at h1
  rw [peCell2, ← Nat.add_assoc] at h2
  exact ⟨b, o, rfl, l1, l2, l3, h0, h1, h2, hf _, by have := hf (k * 3 + 1); rwa [← Nat.add_assoc] at this, by have := hf (k * 3 + 2); rwa [← Nat.add_assoc] at this⟩
theorem read (h : OwnPA T lo hi w ao rvs l) : PesA w ao l := by
  intro k hk
  obtain ⟨b, o, rfl, _, _, _, h0, h1, h2, _⟩ := h.at_ hk
  exact ⟨b, o, _, rfl, h0, h1, h2, (h.row k hk).ints⟩
theorem upd (h : OwnPA T lo hi w ao rvs l) (u : Upd S w w') (hs : l ≠ [] → ¬ S (ablk ao)) (hr : ∀ k, k < l.length → (peAt l k).vals ≠ [] → ¬ S (blk (rvAt rvs k))) : OwnPA T lo hi w' ao rvs l :=
  ⟨h.len, h.spine.upd u (fun hn => hs (by intro e; subst e; simp at hn)), fun k hk => (h.row k hk).upd u (hr k hk), h.diff⟩
theorem ext (h : OwnPA T lo hi w ao rvs l) (u : Ext w w') : OwnPA T lo hi w' ao rvs l := h.upd u (fun _ s => s) (fun _ _ _ s => s)
theorem mono (h : OwnPA T lo hi w ao rvs l) (h1 : lo' ≤ lo) (h2 : hi ≤ hi') : OwnPA T lo' hi' w ao rvs l :=
  ⟨h.len, h.spine.mono h1 h2, fun k hk => (h.row k hk).mono h1 h2, h.diff⟩
theorem range (h : OwnPA T lo hi w ao rvs l) (hx : l ≠ []) : lo ≤ ablk ao ∧ ablk ao < hi ∧ ablk ao < w.heap.size :=
  h.spine.range (by intro e; exact hx (List.eq_nil_of_length_eq_zero (by omega)))
theorem blks (h : OwnPA T lo hi w ao rvs l) {b : Nat} (hb : valBlks rvs l b) : lo ≤ b ∧ b < hi ∧ b < w.heap.size := by
  obtain ⟨k, hk, hr, rfl⟩ := hb
  exact (h.row k hk).range hr
theorem apart (h : OwnPA T lo hi w ao rvs l) (hT : T ≠ 3) {k : Nat} (hk : k < l.length) (hr : (peAt l k).vals ≠ []) : blk (rvAt rvs k) ≠ ablk ao :=
  h.spine.ne_own hT (h.row k hk) (by omega) hr
end OwnPA
namespace OwnP
variable {T lo hi lo' hi' : Nat} {S : Nat → Prop} {w w' : World} {v : Value} {rvs : List Value} {l : List Pe}
theorem read (h : OwnP T lo hi w v rvs l) : Pes w v l := by
  obtain ⟨ao, cap, rfl, h1, h2, h3⟩ := h
  exact ⟨ao, cap, rfl, h1, h2, h3.read⟩
theorem upd (h : OwnP T lo hi w v rvs l) (u : Upd S w w') (hs : l ≠ [] → ¬ S (blk v)) (hr : ∀ k, k < l.length → (peAt l k).vals ≠ [] → ¬ S (blk (rvAt rvs k))) : OwnP T lo hi w' v rvs l := by
  obtain ⟨ao, cap, rfl, h1, h2, h3⟩ := h
  exact ⟨ao, cap, rfl, h1, h2, h3.upd u hs hr⟩
theorem ext (h : OwnP T lo hi w v rvs l) (u : Ext w w') : OwnP T lo hi w' v rvs l := h.upd u (fun _ s => s) (fun _ _ _ s => s)
theorem mono (h : OwnP T lo hi w v rvs l) (h1 : lo' ≤ lo) (h2 : hi ≤ hi') : OwnP T lo' hi' w v rvs l := by
  obtain ⟨ao, cap, rfl, e1, e2, h3⟩ := h
  exact ⟨ao, cap, rfl, e1, e2, h3.mono h1 h2⟩
theorem inside (h : OwnP T lo hi w v rvs l) {b : Nat} (hb : PB v rvs l b) : lo ≤ b ∧ b < hi ∧ b < w.heap.size := by
  obtain ⟨ao, cap, rfl, e1, e2, h3⟩ := h
  rcases hb with ⟨h1, rfl⟩ | h1
  · exact h3.range h1
  · exact h3.blks h1
theorem away (h : OwnP T lo hi w v rvs l) (u : Upd S w w') (hs : ∀ b, S b → b < lo ∨ hi ≤ b) : OwnP T lo hi w' v rvs l :=
  h.upd u (fun hx s => by have := hs _ s; have := h.inside (.inl ⟨hx, rfl⟩); omega) (fun k hk hr s => by have := hs _ s; have := h.inside (.inr ⟨k, hk, hr, rfl⟩); omega)
end OwnP
end Go.Proofs.Ytolmmhdeebgglaa
