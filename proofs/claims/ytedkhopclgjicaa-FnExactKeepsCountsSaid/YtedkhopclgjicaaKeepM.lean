/- A map keyed by an array that counts: the datum, the step of a count. -/
import Derived.Test.YtedkhopclgjicaaKeepP
import Derived.Maps.RangeWalk
import Derived.Maps.OwnOps
import Derived.WideKeyEntry
import Derived.WideKeyPair
namespace Go.Proofs.Ytedkhopclgjicaa
open Go.RowKit Go.Maps Go.ChangeMaps Go.ChangeShapes

theorem zeroI (w : World) : (zeroValue 3).run Try.prog w = .ok (.int .i64 0) w := by kernel_rfl
theorem arrK : WideMaps.ArrKey Try.prog 54 3 2 := ⟨Try.underlying54, by kernel_rfl, by kernel_rfl, by kernel_rfl⟩
theorem lawA : WideMaps.KeyLaw Try.prog 54 := arrK.law
theorem lawK : Keyed Try.prog 54 := Keyed.of_law lawA
theorem typesPos : ∃ m, (Try.prog).types.size = m + 1 := by
  have h : 0 < (Try.prog).types.size := of_decide_eq_true (by kernel_rfl)
  exact ⟨(Try.prog).types.size - 1, by omega⟩
theorem key_some {a b : Int} (ha : (Lit.int .i64 a).wf = true) (hb : (Lit.int .i64 b).wf = true) : ∃ kl, keyOf Try.prog 54 (.agg #[.int .i64 a, .int .i64 b]) = some kl :=
  ⟨_, WideMaps.keyOf_pair arrK Try.underlying3 typesPos ha hb⟩

/-- what the datum says of each pair, and that its keys are pairs -/
structure DOk (D : DataW Unit) (f : Int → Int → Int) : Prop where
  at_ : ∀ a b kl, keyOf Try.prog 54 (.agg #[.int .i64 a, .int .i64 b]) = some kl → D.atKey kl (.lit (.int .i64 0)) = .lit (.int .i64 (f a b))
  keys : ∀ kl, Maps.has D kl = true → ∃ a b, keyOf Try.prog 54 (.agg #[.int .i64 a, .int .i64 b]) = some kl
namespace DOk
variable {D : DataW Unit} {f g : Int → Int → Int}
theorem zero : DOk (.map []) (fun _ _ => 0) := ⟨fun _ _ _ _ => rfl, fun _ h => by cases h⟩
theorem put (h : DOk D f) (hD : IsMap D) {a b : Int} {kl : Lit} (hk : keyOf Try.prog 54 (.agg #[.int .i64 a, .int .i64 b]) = some kl) (hg : ∀ a' b', ¬ (a' = a ∧ b' = b) → g a' b' = f a' b') : DOk (D.put kl (.lit (.int .i64 (g a b)))) g := by
  refine ⟨fun a' b' kl' hk' => ?_, fun kl' hh => ?_⟩
  · by_cases e : kl' = kl
    · subst e
      have h1 := lawK.inj hk' hk
      simp only [Value.agg.injEq, Array.mk.injEq, List.cons.injEq, Value.int.injEq, and_true, true_and] at h1
      obtain ⟨rfl, rfl⟩ := h1
      exact atKey_put_same hD (lawK.key hk) _ _
    · rw [atKey_put_other e, h.at_ a' b' kl' hk']
      by_cases e2 : a' = a ∧ b' = b
      · obtain ⟨rfl, rfl⟩ := e2
        rw [hk] at hk'
        exact absurd (Option.some.inj hk').symm e
      · rw [hg a' b' e2]
  · by_cases e : kl' = kl
    · subst e; exact ⟨a, b, hk⟩
    · rw [has_put_other e] at hh
      exact h.keys kl' hh
end DOk

theorem entry_is_update {P : Program} {w : World} {t k e : TypeId} {R : Value → Option (DataW Unit × List MemPlace)} {b : Nat} {es : Array MapEntry} {clock : Nat} (K : WideMaps.KeyLaw P k) (ht : P.underlying t = some (.map k e)) {z : Value} (hz : ∀ u : World, (zeroValue e).run P u = .ok z u)
    (hb : w.heap[b]? = some (.map es clock)) (F : WideElems.Fit P k R es clock) {key : Value} {kl : Lit} (hkey : keyOf P k key = some kl) :
    ∃ (v0 : Value) (st : Nat) (es1 : Array MapEntry) (clock1 : Nat), (Instr.mapEntry t (.map (some b)) key).run P w = .ok (.tuple #[v0, goInt st]) (setBlock w b (.map es1 clock1)) ∧
      (Instr.mapUpdate t (.map (some b)) key v0).run P w = .ok () (setBlock w b (.map es1 clock1)) ∧ (Instr.lookup t (.map (some b)) key false).run P w = .ok v0 w := by
  obtain ⟨s1, s2, _⟩ := F.stamped
  rcases K.find w hkey es.toList F.keys with ⟨h1, h2⟩ | ⟨j, e0, h1, h2, h3⟩
  · refine ⟨z, clock, es.push ⟨key, z, clock⟩, clock + 1, ?_, ?_, ?_⟩
    · simp [Instr.mapEntry, run_underlying ht, MapKept.run_getObj_map hb, K.check w false hkey, h1, hz, MapKept.run_setObj_map _ hb, Result.andThen, setBlock]
    · simp [Instr.mapUpdate, run_underlying ht, MapKept.run_getObj_map hb, K.check w false hkey, h1, MapKept.run_setObj_map _ hb, Result.andThen, setBlock]
    · rcases Maps.fit_look (R := R) false (Keyed.of_law K) ht (hz w) hb F hkey with ⟨hrun, _, _⟩ | ⟨e1, y, hm, hk, _⟩
      · simpa using hrun
      · exact absurd hk (h2 e1 hm)
  · have hj : es[j]? = some e0 := by simpa using h2
    have hsame : es.modify j (fun e => { e with key := key }) = es := by
      apply Array.ext'
      rw [Array.toList_modify, modify_eq_set _ _ _ _ h2]
      have : ({ e0 with key := key } : MapEntry) = e0 := by rw [← h3]
      rw [this]
      exact WideElems.set_self _ _ _ h2
    have hsame2 : es.modify j (fun e => { e with key := key, val := e0.val }) = es := by
      apply Array.ext'
      rw [Array.toList_modify, modify_eq_set _ _ _ _ h2]
      have : ({ e0 with key := key, val := e0.val } : MapEntry) = e0 := by rw [← h3]
      rw [this]
      exact WideElems.set_self _ _ _ h2
    refine ⟨e0.val, e0.born, es, clock, ?_, ?_, ?_⟩
    · simp [Instr.mapEntry, run_underlying ht, MapKept.run_getObj_map hb, K.check w false hkey, h1, hj, h3, K.stays w hkey, hsame, MapKept.run_setObj_map _ hb, Result.andThen, setBlock]
    · simp [Instr.mapUpdate, run_underlying ht, MapKept.run_getObj_map hb, K.check w false hkey, h1, hj, h3, K.stays w hkey, hsame2, MapKept.run_setObj_map _ hb, Result.andThen, setBlock]
    · rcases Maps.fit_look (R := R) false (Keyed.of_law K) ht (hz w) hb F hkey with ⟨_, hno, _⟩ | ⟨e1, y, hm, hk, hrun, _⟩
      · exact absurd h3 (hno e0 (List.mem_of_getElem? h2))
      · have : e1 = e0 := entry_eq_of_key ((MapKept.stamped_iff es clock).1 F.stamped).2.2 hm (List.mem_of_getElem? h2) (hk.trans h3.symm)
        subst this
        simpa using hrun

/-- 'm[k] += d': look-up (ahead of the entry or behind it), entry, store -/
theorem own_entry {P : Program} {w : World} {t k e : TypeId} {b n : Nat} {D : DataW Unit} (h : w.ownsMap P k (plainElem P e) b n D) (K : WideMaps.KeyLaw P k) (ht : P.underlying t = some (.map k e)) (he : P.underlying e = some (.int .i64))
    (hz : ∀ u : World, (zeroValue e).run P u = .ok (.int .i64 0) u) (hn : n < maxLen) {key : Value} {kl : Lit} (hkey : keyOf P k key = some kl) {c d : Int} (hc : D.atKey kl (.lit (.int .i64 0)) = .lit (.int .i64 c)) (hd : (Lit.int .i64 d).wf = true) :
    ∃ (v0 : Value) (st : Nat) (w2 w3 : World), (Instr.lookup t (.map (some b)) key false).run P w = .ok (.int .i64 c) w ∧ (Instr.mapEntry t (.map (some b)) key).run P w = .ok (.tuple #[v0, .int .i64 (st : Int)]) w2 ∧ (Instr.lookup t (.map (some b)) key false).run P w2 = .ok (.int .i64 c) w2 ∧
      (Instr.entryStore t (.map (some b)) (.int .i64 (st : Int)) (.int .i64 d)).run P w2 = .ok () w3 ∧ w3.ownsMap P k (plainElem P e) b (n + 1) (D.put kl (.lit (.int .i64 d))) ∧ w.grownBy w3 (some b) ∧ w.grownBy w2 (some b) := by
  have hD : IsMap D := World.ownsMap.isMap h
  obtain ⟨c', hl, hat, hwc⟩ := h.lookup_int (Keyed.of_law K) ht he (hz w) hkey
  rw [hc] at hat
  simp only [DataW.lit.injEq, Lit.int.injEq, true_and] at hat
  subst hat
  obtain ⟨w', hrun, h1, h2⟩ := h.update (Keyed.of_law K) ht hn hkey (plainElem_int he hd)
  have h0 := h
  obtain ⟨es, clock, hb, F, hs, hDe⟩ := h
  obtain ⟨v0, st, es1, clock1, hme, _, hst⟩ := WideElems.entry_then_store K ht hz hb F hkey
  obtain ⟨v0', st', es1', clock1', hme', hup, hlk⟩ := entry_is_update K ht hz hb F hkey
  rw [hl] at hlk
  simp only [Result.ok.injEq, and_true] at hlk
  subst hlk
  rw [hme] at hme'
  simp only [Result.ok.injEq] at hme'
  rw [← hme'.2] at hup
  obtain ⟨w9, hup9, h3, h4⟩ := h0.update (Keyed.of_law K) ht hn hkey (plainElem_int he hwc)
  rw [hup] at hup9
  simp only [Result.ok.injEq, true_and] at hup9
  rw [← hup9] at h3 h4
  obtain ⟨c9, hl9, hat9, _⟩ := h3.lookup_int (Keyed.of_law K) ht he (hz _) hkey
  rw [atKey_put_same hD ((Keyed.of_law K).key hkey)] at hat9
  simp only [DataW.lit.injEq, Lit.int.injEq, true_and] at hat9
  subst hat9
  obtain ⟨es', clock', hes, hmu⟩ := hst (setBlock w b (.map es1 clock1)) (.int .i64 d) (heap_setBlock_same hb _)
  rw [hmu] at hrun
  simp only [Result.ok.injEq, true_and] at hrun
  have e2 : setBlock (setBlock w b (.map es1 clock1)) b (.map es' clock') = w' := by
    rw [← hrun]; simp [setBlock]
  rw [e2] at hes
  exact ⟨v0, st, _, w', hl, hme, hl9, hes, h1, h2, h4⟩
end Go.Proofs.Ytedkhopclgjicaa
