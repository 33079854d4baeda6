/- The order of the tables of a plan; the spec's lLess. -/
import Derived.Test.YtolmmhdeebgglaaTg
import Derived.Test.YtolmmhdeebgglaaLcP
namespace Go.Proofs.Ytolmmhdeebgglaa
open Go.RowKit

theorem hasI_mem {xs : List Int} {n : Int} (h : hasI xs n = true) : ∃ j, j < xs.length ∧ ix xs j = n := by
  obtain ⟨x, hx, hn⟩ := List.any_eq_true.1 h
  obtain ⟨j, hj, rfl⟩ := List.getElem_of_mem hx
  exact ⟨j, hj, by rw [ix_eq hj]; simpa using hn⟩
theorem VarsP.has {u v : Ta} (h : VarsP u v) {x : Int} (hx : hasI u.vars x = true) : hasI v.vars x = true := by
  obtain ⟨j, hj, rfl⟩ := hasI_mem hx
  exact h j hj
theorem folP_trans {par : List Int} {s : List Vr} {t u v : Ta} (hs : SchP s) (ht : TabP par s t) (hu : TabP par s u) (h1 : FolP par s t u) (h2 : FolP par s u v) : FolP par s t v := by
  obtain ⟨⟨a1, a2⟩, b1, c1, d1⟩ := h1
  obtain ⟨⟨a3, a4⟩, b2, c2, d2⟩ := h2
  refine ⟨⟨by omega, fun _ k hk hd => ?_⟩, ?_, fun k hk => c2.has (c1 k hk), fun k hk => ?_⟩
  · by_cases e : (dep par (leafAt par k) : Int) < u.level
    · exact a2 (by omega) k hk ⟨hd.1, e⟩
    · exact a4 (by omega) k hk ⟨by omega, hd.2⟩
  · rcases b1 with e | ⟨e1, e2⟩
    · rcases b2 with f | ⟨f1, f2⟩
      · exact .inl (e.trans f)
      · exact .inr ⟨f1, by rw [e]; exact f2⟩
    · rcases b2 with f | ⟨f1, f2⟩
      · exact .inr ⟨by rw [← f]; exact e1, c2.has e2⟩
      · exact .inr ⟨f1, c2.has e2⟩
  · rcases d1 k hk with e | ⟨e1, e2⟩
    · rcases d2 k hk with f | ⟨f1, f2⟩
      · exact .inl (e.trans f)
      · exact .inr ⟨f1, by rw [e]; exact f2⟩
    · rcases d2 k hk with f | ⟨f1, f2⟩
      · exact .inr ⟨c2.has e1, by rw [← f]; exact e2⟩
      · exact .inr ⟨f1, subV_trans (setV_range hs ht.2.1 hk) (setV_range hs hu.2.1 hk) e2 f2⟩
/-- the k-th table follows from the i-th one, but not the other way round -/
noncomputable def ltT (par : List Int) (s : List Vr) (t u : Ta) : Bool := folB par s t u && !folB par s u t
noncomputable def ltL (par : List Int) (s : List Vr) (l : List Ta) (k i : Nat) : Bool := ltT par s (taAt l k) (taAt l i)
theorem ltT_true {par : List Int} {s : List Vr} {t u : Ta} : ltT par s t u = true ↔ FolP par s t u ∧ ¬ FolP par s u t := by
  unfold ltT
  rw [Bool.and_eq_true, folB_true]
  constructor
  · intro h
    refine ⟨h.1, fun h2 => ?_⟩
    have := h.2
    rw [folB_true.2 h2] at this
    cases this
  · intro h
    exact ⟨h.1, by rw [folB_not h.2]; rfl⟩
theorem ltL_strict {par : List Int} {s : List Vr} {l : List Ta} (h : PlanP par s l) : Strict l.length (ltL par s l) := by
  refine ⟨fun a b c ha hb hc h1 h2 => ?_, fun a => ?_⟩
  · obtain ⟨p1, p2⟩ := ltT_true.1 h1
    obtain ⟨q1, q2⟩ := ltT_true.1 h2
    have ta := h.2.2.2 a ha
    have tb := h.2.2.2 b hb
    have tc := h.2.2.2 c hc
    exact ltT_true.2 ⟨folP_trans h.2.1 ta tb p1 q1, fun h3 => p2 (folP_trans h.2.1 tb tc q1 h3)⟩
  · cases e : ltL par s l a a
    · rfl
    · obtain ⟨p1, p2⟩ := ltT_true.1 e
      exact absurd p1 p2
set_option maxRecDepth 100000 in
set_option maxHeartbeats 1600000 in
theorem lLess_b (b : Bool) (v1 v2 v3 v4 : Value) (T : Ge) (s : List Vr) (t u : Ta) (w : World) (hb : ltT T.par s t u = b) (h1 : GeR w v1 T) (h2 : Vrs w v2 s) (h3 : TaR w v3 t) (h4 : TaR w v4 u) (hg : GeoP T.par) (hs : SchP s) (ht : TabP T.par s t) (hu : TabP T.par s u) :
    Calls Try.prog 46 #[v1, v2, v3, v4] w fun e w' => e = .returned (.bool b) ∧ Ext w w' := by
  have HG := Lib.hid hg; clear hg
  have HS := Lib.hid hs; clear hs
  have HT := Lib.hid ht; clear ht
  have HU := Lib.hid hu; clear hu
  have R1 := Lib.hid h1
  have R2 := Lib.hid h2; clear h2
  have R3 := Lib.hid h3
  have R4 := Lib.hid h4
  obtain ⟨y1, rfl, i1⟩ := h1
  clear i1
  obtain ⟨x1, x2, rfl, i1, i2⟩ := h3
  obtain ⟨z1, z2, rfl, i3, i4⟩ := h4
  clear i1 i2 i3 i4
  obtain ⟨A, hA⟩ : ∃ A, t.level = A := ⟨_, rfl⟩
  obtain ⟨B, hB⟩ : ∃ B, t.sum = B := ⟨_, rfl⟩
  obtain ⟨C, hC⟩ : ∃ C, u.level = C := ⟨_, rfl⟩
  obtain ⟨D, hD⟩ : ∃ D, u.sum = D := ⟨_, rfl⟩
  rw [hA, hB] at R3
  rw [hC, hD] at R4
  rw [hA, hB, hC, hD]
  clear hA hB hC hD
  have u0 := (((Ext.refl w).alloc (.cells #[y1] 33)).alloc (.cells #[.int .i64 A, x1, x2, .int .i64 B] 56)).alloc (.cells #[.int .i64 C, z1, z2, .int .i64 D] 56)
  have b1 := ((Box.new w 33 #[y1] rfl).alloc (.cells #[.int .i64 A, x1, x2, .int .i64 B] 56)).alloc (.cells #[.int .i64 C, z1, z2, .int .i64 D] 56)
  have b2 := (Box.new (w.alloc (.cells #[y1] 33)) 56 #[.int .i64 A, x1, x2, .int .i64 B] (b := w.heap.size + 1) (by simp)).alloc (.cells #[.int .i64 C, z1, z2, .int .i64 D] 56)
  have b3 := Box.new ((w.alloc (.cells #[y1] 33)).alloc (.cells #[.int .i64 A, x1, x2, .int .i64 B] 56)) 56 #[.int .i64 C, z1, z2, .int .i64 D] (b := w.heap.size + 1 + 1) (by simp)
  have R1 := Lib.hid (R1.out.ext u0)
  have R2 := Lib.hid (R2.out.ext u0)
  have R3 := Lib.hid (R3.out.ext u0)
  have R4 := Lib.hid (R4.out.ext u0)
  rcases hf : folB T.par s t u with _ | _
  · have HF := Lib.hid hf
    have HB : Hid (b = false) := Lib.hid (by rw [← hb]; simp [ltT, hf])
    clear hf hb
    have c0 := b1.cell 0 (by simp)
    have d0 := b2.cell 0 (by simp)
    have d1 := b2.cell 1 (by simp)
    have d2 := b2.cell 2 (by simp)
    have d3 := b2.cell 3 (by simp)
    have e0 := b3.cell 0 (by simp)
    have e1 := b3.cell 1 (by simp)
    have e2 := b3.cell 2 (by simp)
    have e3 := b3.cell 3 (by simp)
    go_enter Try.func46, Try.ntmps46
    go_wp2_with fail
    refine (lFollows_b false _ _ _ _ T s t u _ HF.out R1.out R2.out R3.out R4.out HG.out HS.out HT.out HU.out).mono ?_
    rintro e w1 ⟨rfl, u1⟩
    go_wp2
    go_ret
    exact ⟨ret_bool HB.out.symm, u0.trans u1⟩
  · have HF := Lib.hid hf
    have HB : Hid (b = !folB T.par s u t) := Lib.hid (by rw [← hb]; simp [ltT, hf])
    clear hf hb
    obtain ⟨E, hE⟩ : ∃ E, folB T.par s u t = E := ⟨_, rfl⟩
    rw [hE] at HB
    have HE := Lib.hid hE; clear hE
    have c0 := b1.cell 0 (by simp)
    have d0 := b2.cell 0 (by simp)
    have d1 := b2.cell 1 (by simp)
    have d2 := b2.cell 2 (by simp)
    have d3 := b2.cell 3 (by simp)
    have e0 := b3.cell 0 (by simp)
    have e1 := b3.cell 1 (by simp)
    have e2 := b3.cell 2 (by simp)
    have e3 := b3.cell 3 (by simp)
    go_enter Try.func46, Try.ntmps46
    go_wp2_with fail
    refine (lFollows_b true _ _ _ _ T s t u _ HF.out R1.out R2.out R3.out R4.out HG.out HS.out HT.out HU.out).mono ?_
    rintro e w1 ⟨rfl, u1⟩
    have cx0 := (b1.ext u1).cell 0 (by simp)
    have dx0 := (b2.ext u1).cell 0 (by simp)
    have dx1 := (b2.ext u1).cell 1 (by simp)
    have dx2 := (b2.ext u1).cell 2 (by simp)
    have dx3 := (b2.ext u1).cell 3 (by simp)
    have ex0 := (b3.ext u1).cell 0 (by simp)
    have ex1 := (b3.ext u1).cell 1 (by simp)
    have ex2 := (b3.ext u1).cell 2 (by simp)
    have ex3 := (b3.ext u1).cell 3 (by simp)
    go_wp2_with fail
    refine (lFollows_b E _ _ _ _ T s u t _ HE.out (R1.out.ext u1) (R2.out.ext u1) (R4.out.ext u1) (R3.out.ext u1) HG.out HS.out HU.out HT.out).mono ?_
    rintro e w2 ⟨rfl, u2⟩
    go_wp2
    go_ret
    exact ⟨ret_bool HB.out.symm, (u0.trans u1).trans u2⟩
end Go.Proofs.Ytolmmhdeebgglaa
