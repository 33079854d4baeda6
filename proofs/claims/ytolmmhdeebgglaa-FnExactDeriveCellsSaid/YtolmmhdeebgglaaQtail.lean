/- A region that draws its order, whose operations but the last only read (their callees may make memory), and whose last one waits for all the others: walked once, at the class of worlds that extend the one at hand; then the last. No program in sight. -/
import Derived.Test.YtolmmhdeebgglaaQext
import Derived.BigQuiet
import Derived.Deep.RegionHeld3
namespace Go.Proofs.Ytolmmhdeebgglaa
open Go.RowKit

section
variable {P : Program} {md : Region.Mode} {C : World → Prop}

/-- each operation waits for earlier ones alone -/
def backB (md : Region.Mode) (ops : Array Oper) : Bool :=
  (List.range ops.size).all fun i => ((ops[i]?).map fun o => o.after.all fun e => !Region.binds md e || decide (e.on < i)).getD true
/-- operation n waits for all before it -/
def lastB (md : Region.Mode) (ops : Array Oper) (n : Nat) : Bool :=
  (List.range n).all fun i => ((ops[n]?).map fun o => o.after.any fun e => Region.binds md e && e.on == i).getD false
theorem backB_at {ops : Array Oper} (h : backB md ops = true) {i : Nat} {o : Oper} (ho : ops[i]? = some o) : ∀ e ∈ o.after, Region.binds md e = true → e.on < i := by
  have hi : i < ops.size := (Array.getElem?_eq_some_iff.1 ho).1
  have h1 := List.all_eq_true.1 h i (List.mem_range.2 hi)
  rw [ho] at h1
  simp only [Option.map_some, Option.getD_some, Array.all_eq_true_iff_forall_mem, Bool.or_eq_true, Bool.not_eq_true', decide_eq_true_eq] at h1
  intro e he hb
  rcases h1 e he with h2 | h2
  · rw [h2] at hb; cases hb
  · exact h2
theorem lastB_at {ops : Array Oper} {n : Nat} (h : lastB md ops n = true) {o : Oper} (ho : ops[n]? = some o) {i : Nat} (hi : i < n) : ∃ e ∈ o.after, Region.binds md e = true ∧ e.on = i := by
  have h1 := List.all_eq_true.1 h i (List.mem_range.2 hi)
  rw [ho] at h1
  simp only [Option.map_some, Option.getD_some] at h1
  obtain ⟨e, he, hb⟩ := Array.any_eq_true'.1 h1
  simp only [Bool.and_eq_true, beq_iff_eq] at hb
  exact ⟨e, he, hb.1, hb.2⟩
theorem ready_some {ops : Array Oper} {listed : Array Bool} (hs : listed.size = ops.size) (hb : backB md ops = true) : ∀ n, n < ops.size → listed.getD n true = false → Region.ready md ops listed ≠ [] := by
  intro n
  induction n using Nat.strongRecOn with
  | _ n ih =>
    intro hn hu
    by_cases hr : n ∈ Region.ready md ops listed
    · exact List.ne_nil_of_mem hr
    · obtain ⟨o, ho⟩ : ∃ o, ops[n]? = some o := ⟨ops[n], by simp [hn]⟩
      have h1 : ¬ ∀ e ∈ o.after, Region.binds md e = true → listed.getD e.on false = true := fun h => hr (mem_ready.2 ⟨hu, o, ho, h⟩)
      obtain ⟨e, h2⟩ := Classical.not_forall.1 h1
      obtain ⟨he, h3⟩ := Classical.not_imp.1 h2
      obtain ⟨hbd, hl⟩ := Classical.not_imp.1 h3
      have hlt := backB_at hb ho e he hbd
      refine ih e.on hlt (by omega) ?_
      have hlt' : e.on < listed.size := by omega
      simp only [Array.getD, hlt', dif_pos] at hl ⊢
      simpa using hl
theorem same_yielded {ops : Array Oper} {n : Nat} {o o' : Oper} (ho : ops[n]? = some o) (hd : o'.dst = o.dst) (tmps : Array Value) : yielded (ops.setIfInBounds n o') tmps = yielded ops tmps := by
  funext j
  unfold yielded
  by_cases e : n = j
  · subst e
    obtain ⟨hn, h2⟩ := Array.getElem?_eq_some_iff.1 ho
    simp [hn, h2, hd]
  · simp [e]
theorem same_ready {ops : Array Oper} {n : Nat} {o o' : Oper} (ho : ops[n]? = some o) (ha : o'.after = o.after) (listed : Array Bool) : Region.ready md (ops.setIfInBounds n o') listed = Region.ready md ops listed := by
  unfold Region.ready
  simp only [Array.size_setIfInBounds]
  congr 1
  funext j
  by_cases e : n = j
  · subst e
    obtain ⟨hn, h2⟩ := Array.getElem?_eq_some_iff.1 ho
    simp [hn, h2, ha]
  · simp [e]
theorem any_of_tail {ops : Array Oper} {n : Nat} {o o' : Oper} {Q : Exit → Act → World → Prop} {Qa : Act → Prop} (ho : ops[n]? = some o) (hn : n + 1 = ops.size) (hd : o.dst = none) (hg : o.guard = none)
    (hd' : o'.dst = none) (hg' : o'.guard = none) (ha' : o'.after = o.after) (hb : backB md ops = true) (hl : lastB md ops n = true)
    (hQ : ∀ a w', C w' → Qa a → o.wp P a w' (fun a w => Q .normal a w) Q) :
    ∀ (fuel : Nat) (listed : Array Bool) (a : Act) (w : World), C w → listed.size = ops.size → listed.getD n true = false →
      wpAnyQ P md (ops.setIfInBounds n o') C Qa fuel listed a → wpAny P md ops Q fuel listed a w := by
  intro fuel
  have hlt : n < ops.size := by omega
  have hdd : o'.dst = o.dst := by rw [hd, hd']
  induction fuel with
  | zero =>
    intro listed a w _ hs hu h
    have := h.1
    rw [same_ready ho ha'] at this
    exact absurd this (ready_some hs hb n hlt hu)
  | succ f ih =>
    intro listed a w hC hs hu h
    refine ⟨fun h0 => absurd h0 (ready_some hs hb n hlt hu), fun i hi => ?_⟩
    have h2 := h.2 i (by rw [same_ready ho ha']; exact hi)
    by_cases e : i = n
    · subst e
      obtain ⟨_, o2, ho2, hall⟩ := mem_ready.1 hi
      have : o2 = o := Option.some.inj (ho2.symm.trans ho)
      subst this
      have hdone : Region.ready md ops (listed.setIfInBounds i true) = [] := by
        apply List.eq_nil_iff_forall_not_mem.2
        intro j hj
        obtain ⟨hju, oj, hoj, _⟩ := mem_ready.1 hj
        have hjs : j < ops.size := (Array.getElem?_eq_some_iff.1 hoj).1
        by_cases ej : i = j
        · subst ej
          have : i < listed.size := by omega
          simp [Array.getD, this] at hju
        · obtain ⟨ed, hed, hbd, hon⟩ := lastB_at hl ho (i := j) (by omega)
          have h3 := hall ed hed hbd
          rw [hon] at h3
          rw [getD_set_ne true ej] at hju
          have hj2 : j < listed.size := by omega
          simp [Array.getD, hj2] at h3 hju
          rw [h3] at hju; cases hju
      have hqa : Qa a := by
        unfold qOp at h2
        have hset : (ops.setIfInBounds i o')[i]? = some o' := by simp [hlt]
        simp only [hset] at h2
        have hw : Region.wanted o' (yielded (ops.setIfInBounds i o') a.tmps) = true := by simp [Region.wanted, hg']
        rw [if_pos hw] at h2
        obtain ⟨v, _, hK⟩ := h2
        have hput : a.put o'.dst v = a := by rw [hd']; rfl
        rw [hput] at hK
        cases f with
        | zero => exact hK.2
        | succ f => exact hK.1 (by rw [same_ready ho ha']; exact hdone)
      unfold wpOp
      simp only [ho]
      have hw : Region.wanted o2 (yielded ops a.tmps) = true := by simp [Region.wanted, hg]
      rw [if_pos hw]
      refine .inl (Oper.wp_mono (fun a' w' hq => ?_) (hQ a w hC hqa))
      cases f with
      | zero => exact ⟨hdone, hq⟩
      | succ f => exact ⟨fun _ => hq, fun j hj => by rw [hdone] at hj; cases hj⟩
    · have h3 : qOp P ops C i (wpAnyQ P md (ops.setIfInBounds n o') C Qa f (listed.setIfInBounds i true)) a := by
        unfold qOp at h2 ⊢
        have he : (ops.setIfInBounds n o')[i]? = ops[i]? := by simp [Ne.symm e]
        rw [he] at h2
        simp only [same_yielded ho hdd] at h2
        exact h2
      refine wpOp_of_qOp hC (fun a' w' hw' hk => ih _ a' w' hw' (by simp [hs]) ?_ hk) h3
      rw [getD_set_ne true e]; exact hu
end

/-- the last operation, with another in its place -/
def idle (o : Oper) : Oper := { o with op := .move (.const undef) }
/-- behind the others: the last operation, then what follows -/
def tailQ (P : Program) (o : Oper) (Q : Exit → Act → World → Prop) : Exit → Act → World → Prop
  | .normal, a, w => o.wp P a w (fun a w => Q .normal a w) Q
  | e, a, w => Q e a w
theorem tailQ_other {P : Program} {o : Oper} {Q : Exit → Act → World → Prop} {e : Exit} {a : Act} {w : World} (he : e ≠ .normal) : tailQ P o Q e a w = Q e a w := by
  cases e <;> first | rfl | exact absurd rfl he
theorem upon_tail {P : Program} {o o' : Oper} {Q : Exit → Act → World → Prop} {a : Act} {K : Act → World → Prop} : ∀ (r : Result Next), o'.upon P a K (tailQ P o Q) r → o'.upon P a K Q r
  | .ok (.value _) _, h => h
  | .ok .skip _, h => h
  | .ok (.defer _) _, h => h
  | .ok (.enter f args) w', h => by
    simp only [Oper.upon] at h ⊢
    refine Calls.mono h fun e w'' he => ?_
    cases e with
    | returned v => exact he
    | panicked c => exact he
    | outgrown => exact he
  | .ok (.row _ _) _, h => h
  | .halt (.panic _) _, h => h
theorem wpOp_tail {P : Program} {ops : Array Oper} {o : Oper} {i : Nat} {Q : Exit → Act → World → Prop} {a : Act} {w : World} {K : Act → World → Prop} (h : wpOp P ops (tailQ P o Q) i K a w) : wpOp P ops Q i K a w := by
  unfold wpOp at h ⊢
  split
  · rename_i e; simp only [e] at h; exact h
  · rename_i o' e
    simp only [e] at h
    split
    · rename_i hw
      rw [if_pos hw] at h
      rcases h with h | ⟨h1, h2⟩
      · exact .inl (upon_tail _ h)
      · exact .inr ⟨h1, h2⟩
    · rename_i hw
      rw [if_neg hw] at h
      exact h
theorem idle_wp {P : Program} {o : Oper} {Q : Exit → Act → World → Prop} {a : Act} {w : World} {K : Act → World → Prop} (hd : o.dst = none) (h : (idle o).wp P a w K Q ∨ ((idle o).asks P a w ∧ LetsOut Q)) : K a w := by
  rcases h with h | ⟨h, _⟩
  · unfold Oper.wp at h
    simp [idle, execOp, Oper.upon, Act.put, hd] at h
    exact h
  · have h1 := h.1
    have e : ((execOp a.eval (idle o)).runT P w #[]).2 = #[] := rfl
    rw [e] at h1
    simp at h1
theorem any_of_tailH {P : Program} {md : Region.Mode} {ops : Array Oper} {n : Nat} {o : Oper} {Q : Exit → Act → World → Prop} (ho : ops[n]? = some o) (hn : n + 1 = ops.size) (hd : o.dst = none) (hg : o.guard = none)
    (hb : backB md ops = true) (hl : lastB md ops n = true) :
    ∀ (fuel : Nat) (listed : Array Bool) (a : Act) (w : World), listed.size = ops.size → listed.getD n true = false →
      wpAny P md (ops.setIfInBounds n (idle o)) (tailQ P o Q) fuel listed a w → wpAny P md ops Q fuel listed a w := by
  intro fuel
  have hlt : n < ops.size := by omega
  have ha' : (idle o).after = o.after := rfl
  have hdd : (idle o).dst = o.dst := rfl
  induction fuel with
  | zero =>
    intro listed a w hs hu h
    have := h.1
    rw [same_ready ho ha'] at this
    exact absurd this (ready_some hs hb n hlt hu)
  | succ f ih =>
    intro listed a w hs hu h
    refine ⟨fun h0 => absurd h0 (ready_some hs hb n hlt hu), fun i hi => ?_⟩
    have h2 := h.2 i (by rw [same_ready ho ha']; exact hi)
    by_cases e : i = n
    · subst e
      obtain ⟨_, o2, ho2, hall⟩ := mem_ready.1 hi
      have : o2 = o := Option.some.inj (ho2.symm.trans ho)
      subst this
      have hdone : Region.ready md ops (listed.setIfInBounds i true) = [] := by
        apply List.eq_nil_iff_forall_not_mem.2
        intro j hj
        obtain ⟨hju, oj, hoj, _⟩ := mem_ready.1 hj
        have hjs : j < ops.size := (Array.getElem?_eq_some_iff.1 hoj).1
        by_cases ej : i = j
        · subst ej
          have : i < listed.size := by omega
          simp [Array.getD, this] at hju
        · obtain ⟨ed, hed, hbd, hon⟩ := lastB_at hl ho (i := j) (by omega)
          have h3 := hall ed hed hbd
          rw [hon] at h3
          rw [getD_set_ne true ej] at hju
          have hj2 : j < listed.size := by omega
          simp [Array.getD, hj2] at h3 hju
          rw [h3] at hju; cases hju
      have hqa : o2.wp P a w (fun a w => Q .normal a w) Q := by
        unfold wpOp at h2
        have hset : (ops.setIfInBounds i (idle o2))[i]? = some (idle o2) := by simp [hlt]
        simp only [hset] at h2
        have hw : Region.wanted (idle o2) (yielded (ops.setIfInBounds i (idle o2)) a.tmps) = true := by simp [Region.wanted, idle, hg]
        rw [if_pos hw] at h2
        have hK := idle_wp hd h2
        cases f with
        | zero => exact hK.2
        | succ f => exact hK.1 (by rw [same_ready ho ha']; exact hdone)
      unfold wpOp
      simp only [ho]
      have hw : Region.wanted o2 (yielded ops a.tmps) = true := by simp [Region.wanted, hg]
      rw [if_pos hw]
      refine .inl (Oper.wp_mono (fun a' w' hq => ?_) hqa)
      cases f with
      | zero => exact ⟨hdone, hq⟩
      | succ f => exact ⟨fun _ => hq, fun j hj => by rw [hdone] at hj; cases hj⟩
    · have h3 : wpOp P ops (tailQ P o Q) i (wpAny P md (ops.setIfInBounds n (idle o)) (tailQ P o Q) f (listed.setIfInBounds i true)) a w := by
        unfold wpOp at h2 ⊢
        have he : (ops.setIfInBounds n (idle o))[i]? = ops[i]? := by simp [Ne.symm e]
        rw [he] at h2
        simp only [same_yielded ho hdd] at h2
        exact h2
      refine wpOp_tail (wpOp_mono (fun a' w' hk => ih _ a' w' (by simp [hs]) ?_ hk) h3)
      rw [getD_set_ne true e]; exact hu
theorem wp_region_tail_held {P : Program} {id n : Nat} {Q : Exit → Act → World → Prop} {a : Act} {w : World} {l : List Oper} (o : Oper) (S : World → Prop) (hm : P.follows .mixedOrders = true) (hn : l.length = n) (hg : o.guard = none) (hd : o.dst = none)
    (hb : backB .any (l ++ [o]).toArray = true) (hl : lastB .any (l ++ [o]).toArray n = true) (hS : S w.drew)
    (h : S w.drew → wpAnyH P .any (l ++ [idle o]).toArray (tailQ P o Q) S (l ++ [idle o]).toArray.size (Array.replicate (l ++ [idle o]).toArray.size false) a w.drew) : (Code.region id (l ++ [o]).toArray true).wp P Q a w := by
  subst hn
  refine wp_region_any hm ?_
  have hset : (l ++ [idle o]).toArray = (l ++ [o]).toArray.setIfInBounds l.length (idle o) := by simp
  have h1 := wpAny_of_held _ _ _ _ (h hS)
  rw [hset] at h1
  have h2 := any_of_tailH (P := P) (md := .any) (ops := (l ++ [o]).toArray) (n := l.length) (o := o) (Q := Q) (by simp) (by simp) hd hg hb hl
  have h3 := h2 (l ++ [o]).toArray.size (Array.replicate (l ++ [o]).toArray.size false) a w.drew (by simp) (by simp [Array.getD])
  refine h3 ?_
  simpa using h1
theorem wp_region_tail_at {P : Program} {id : Nat} {Q : Exit → Act → World → Prop} {a : Act} {w : World} {ls : List Oper} (n : Nat) (o : Oper) (S : World → Prop) (hls : ls = ls.take n ++ [o]) (hm : P.follows .mixedOrders = true) (hn : (ls.take n).length = n) (hg : o.guard = none) (hd : o.dst = none)
    (hb : backB .any (ls.take n ++ [o]).toArray = true) (hl : lastB .any (ls.take n ++ [o]).toArray n = true) (hS : S w.drew)
    (h : S w.drew → wpAnyH P .any (ls.take n ++ [idle o]).toArray (tailQ P o Q) S (ls.take n ++ [idle o]).toArray.size (Array.replicate (ls.take n ++ [idle o]).toArray.size false) a w.drew) : (Code.region id ls.toArray true).wp P Q a w := by
  have h1 := wp_region_tail_held (id := id) o S hm hn hg hd hb hl hS h
  rw [← hls] at h1
  exact h1
end Go.Proofs.Ytolmmhdeebgglaa
