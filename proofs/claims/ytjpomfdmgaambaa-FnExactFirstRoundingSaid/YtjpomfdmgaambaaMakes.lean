/- A region that draws the order of several makes: one walk for all orders. -/
import Derived.Test.YtjpomfdmgaambaaLib
import Derived.OrdersHeld
namespace Go.Proofs.Ytjpomfdmgaambaa
open Go

def updF {α : Type} (x : Nat → α) (k : Nat) (v : α) : Nat → α := fun j => if j = k then v else x j
theorem updF_same {α : Type} (x : Nat → α) (k : Nat) (v : α) : updF x k v k = v := by simp [updF]
theorem updF_ne {α : Type} (x : Nat → α) {k j : Nat} (v : α) (h : j ≠ k) : updF x k v j = x j := by simp [updF, h]
def cntF : Nat → (Nat → Bool) → Nat
  | 0, _ => 0
  | n + 1, b => cntF n b + if b n = true then 0 else 1
theorem cntF_zero {b : Nat → Bool} : ∀ {N : Nat}, cntF N b = 0 → ∀ k, k < N → b k = true
  | 0, _, k, hk => by omega
  | N + 1, h, k, hk => by
    simp only [cntF] at h
    by_cases hb : b N = true
    · rw [if_pos hb] at h
      by_cases hk' : k = N
      · subst hk'; exact hb
      · exact cntF_zero (N := N) (by omega) k (by omega)
    · rw [if_neg hb] at h; omega
theorem cntF_all {b : Nat → Bool} : ∀ {N : Nat}, (∀ k, k < N → b k = true) → cntF N b = 0
  | 0, _ => rfl
  | N + 1, h => by
    simp only [cntF]
    rw [cntF_all (N := N) (fun k hk => h k (by omega)), if_pos (h N (by omega))]
theorem cntF_congr {b b' : Nat → Bool} : ∀ {N : Nat}, (∀ k, k < N → b k = b' k) → cntF N b = cntF N b'
  | 0, _ => rfl
  | N + 1, h => by
    simp only [cntF]
    rw [cntF_congr (N := N) (fun k hk => h k (by omega)), h N (by omega)]
theorem cntF_upd {b : Nat → Bool} {k : Nat} (hf : b k = false) : ∀ {N : Nat}, k < N → cntF N (updF b k true) + 1 = cntF N b
  | 0, hk => by omega
  | N + 1, hk => by
    simp only [cntF]
    by_cases h : k = N
    · subst h
      rw [cntF_congr (b := updF b k true) (b' := b) (fun j hj => updF_ne _ _ (by omega)), updF_same, hf]
      simp
    · have := cntF_upd hf (N := N) (by omega)
      rw [updF_ne _ _ (by omega : N ≠ k)]
      omega
/-- the makes that are done: their blocks are new, apart, and hold what was made -/
structure Made (N : Nat) (o : Nat → Obj) (w0 : World) (b : Nat → Bool) (n : Nat → Nat) (w : World) : Prop where
  ext : Ext w0 w
  own : ∀ k, k < N → b k = true → w0.heap.size ≤ n k ∧ n k < w.heap.size ∧ w.heap[n k]? = some (o k)
  apart : ∀ i j, i < N → j < N → i ≠ j → b i = true → b j = true → n i ≠ n j
theorem Made.step {N : Nat} {o : Nat → Obj} {w0 w : World} {b : Nat → Bool} {n : Nat → Nat} (h : Made N o w0 b n w) {k : Nat} :
    Made N o w0 (updF b k true) (updF n k w.heap.size) (w.alloc (o k)) := by
  have hs : ∀ x, (w.alloc x).heap.size = w.heap.size + 1 := fun x => by simp
  refine ⟨h.ext.alloc _, fun j hj hb => ?_, fun i j hi hj hij hbi hbj => ?_⟩
  · by_cases e : j = k
    · subst e
      rw [updF_same, hs]
      exact ⟨h.ext.size, by omega, Go.Deep.blk_alloc_new _ _⟩
    · rw [updF_ne _ _ e] at hb ⊢
      obtain ⟨h1, h2, h3⟩ := h.own j hj hb
      rw [hs]
      exact ⟨h1, by omega, (((Ext.refl w).alloc (o k)).block h2).trans h3⟩
  · by_cases e : i = k
    · subst e
      rw [updF_same, updF_ne _ _ (Ne.symm hij)]
      rw [updF_ne _ _ (Ne.symm hij)] at hbj
      have := (h.own j hj hbj).2.1
      omega
    · rw [updF_ne _ _ e] at hbi ⊢
      by_cases e' : j = k
      · subst e'
        rw [updF_same]
        have := (h.own i hi hbi).2.1
        omega
      · rw [updF_ne _ _ e'] at hbj ⊢
        exact h.apart i j hi hj hij hbi hbj
theorem Made.all {N : Nat} {o : Nat → Obj} {w0 w : World} {b : Nat → Bool} {n : Nat → Nat} (h : Made N o w0 b n w) (hb : ∀ k, k < N → b k = true) : Made N o w0 (fun _ => true) n w :=
  ⟨h.ext, fun k hk _ => h.own k hk (hb k hk), fun i j hi hj hij _ _ => h.apart i j hi hj hij (hb i hi) (hb j hj)⟩

theorem wpAny_makes {P : Program} {ops : Array Oper} {Q : Exit → Act → World → Prop} {md : Region.Mode} {N NB iB fuel : Nat} {idx : Nat → Nat} {A : (Nat → Value) → Value → Act} {L : (Nat → Bool) → Bool → Array Bool}
    {o : Nat → Obj} {v : Nat → Nat → Value} {VB : (Nat → Value) → Value} {w0 : World}
    (hA : ∀ x x' y, (∀ k, k < N → x k = x' k) → A x y = A x' y)
    (hL : ∀ b b' c, (∀ k, k < N → b k = b' k) → L b c = L b' c)
    (hVB : ∀ x x', (∀ k, k < NB → x k = x' k) → VB x = VB x') (hNB : NB ≤ N)
    (hLk : ∀ b c k, k < N → (L b c).setIfInBounds (idx k) true = L (updF b k true) c)
    (hLB : ∀ b c, (L b c).setIfInBounds iB true = L b true)
    (hready : ∀ b c i, i ∈ Region.ready md ops (L b c) → (∃ k, k < N ∧ i = idx k ∧ b k = false) ∨ (i = iB ∧ c = false ∧ ∀ k, k < NB → b k = true) ∨ (c = true ∧ ∀ k, k < N → b k = true))
    (hne : ∀ b c, Region.ready md ops (L b c) = [] → c = true ∧ ∀ k, k < N → b k = true)
    (hstep : ∀ k (x : Nat → Value) y (K : Act → World → Prop) w, k < N → K (A (updF x k (v k w.heap.size)) y) (w.alloc (o k)) → wpOp P ops Q (idx k) K (A x y) w)
    (hbuild : ∀ (n : Nat → Nat) (x : Nat → Value) y (K : Act → World → Prop) w, (∀ k, k < NB → x k = v k (n k)) → K (A x (VB x)) w → wpOp P ops Q iB K (A x y) w)
    (hrest : ∀ (n : Nat → Nat) w, Made N o w0 (fun _ => true) n w → wpAny P md ops Q fuel (L (fun _ => true) true) (A (fun k => v k (n k)) (VB (fun k => v k (n k)))) w) :
    ∀ m b c x y n w, Made N o w0 b n w → (∀ k, k < N → x k = if b k = true then v k (n k) else undef) → (c = true → y = VB x ∧ ∀ k, k < NB → b k = true) →
      cntF N b + (if c = true then 0 else 1) = m → wpAny P md ops Q (fuel + m) (L b c) (A x y) w := by
  intro m
  induction m with
  | zero =>
    intro b c x y n w hM hx hc hm
    have hcT : c = true := by
      cases c with
      | true => rfl
      | false => simp at hm
    have hb : ∀ k, k < N → b k = true := cntF_zero (by omega)
    have ex : ∀ k, k < N → x k = v k (n k) := fun k hk => by rw [hx k hk, if_pos (hb k hk)]
    subst hcT
    rw [hL b (fun _ => true) true (fun k hk => hb k hk), (hc rfl).1, hVB x (fun k => v k (n k)) (fun k hk => ex k (by omega)), hA x (fun k => v k (n k)) _ ex]
    exact hrest n w (hM.all hb)
  | succ m ih =>
    intro b c x y n w hM hx hc hm
    refine ⟨fun h0 => ?_, fun i hi => ?_⟩
    · obtain ⟨h1, h2⟩ := hne b c h0
      rw [h1, if_pos rfl, cntF_all h2] at hm
      omega
    · rcases hready b c i hi with ⟨k, hk, rfl, hb⟩ | ⟨rfl, hcf, hbs⟩ | ⟨h1, h2⟩
      rotate_left 2
      · exfalso
        rw [h1, if_pos rfl, cntF_all h2] at hm
        omega
      · refine hstep k x y _ w hk ?_
        rw [hLk b c k hk]
        refine ih _ c _ y (updF n k w.heap.size) _ hM.step (fun j hj => ?_) (fun hcT => ?_) ?_
        · by_cases e : j = k
          · subst e; rw [updF_same, updF_same, updF_same, if_pos rfl]
          · rw [updF_ne _ _ e, updF_ne _ _ e, updF_ne _ _ e]; exact hx j hj
        · obtain ⟨h1, h2⟩ := hc hcT
          have hkB : ¬ k < NB := fun h => by rw [h2 k h] at hb; cases hb
          refine ⟨?_, fun j hj => ?_⟩
          · rw [h1]; exact hVB _ _ (fun j hj => (updF_ne _ _ (by omega)).symm)
          · by_cases e : j = k
            · subst e; exact updF_same _ _ _
            · rw [updF_ne _ _ e]; exact h2 j hj
        · have := cntF_upd hb hk
          omega
      · refine hbuild n x y _ w (fun k hk => by rw [hx k (by omega), if_pos (hbs k hk)]) ?_
        rw [hLB]
        refine ih b true x _ n w hM hx (fun _ => ⟨rfl, hbs⟩) ?_
        rw [hcf] at hm
        simp at hm ⊢
        omega
theorem wpAny_takeD {P : Program} {ops : Array Oper} {Q : Exit → Act → World → Prop} {md : Region.Mode} {i : Nat} {oi : Oper} {v : Value} {fuel : Nat} {listed : Array Bool} {a : Act} {w : World} (d : Option Tmp) (hi : ops[i]? = some oi) (hd : oi.dst = d)
    (hs : Region.noSelect ops = true) (hf : Region.free md ops listed i = true) (hr : (Region.ready md ops listed).contains i = true)
    (hQ : ∀ c a w, Q (.panic c) (a.put d v) w → Q (.panic c) a w) (hy : Yields P ops oi v a)
    (h : wpAny P md ops Q fuel (listed.setIfInBounds i true) (a.put d v) w) : wpAny P md ops Q (fuel + 1) listed a w := by
  subst hd
  exact wpAny_take hi hs hf hr hQ hy h
theorem wpOp_stepD {P : Program} {ops : Array Oper} {Q : Exit → Act → World → Prop} {i : Nat} {o : Oper} {K : Act → World → Prop} {a : Act} {w : World} (d : Option Tmp) (ho : ops[i]? = some o) (hd : o.dst = d) (hw : Region.wanted o (yielded ops a.tmps) = true)
    (v : Value) (w' : World) (hy : (execOp a.eval o).run P w = .ok (.value v) w') (h : K (a.put d v) w') : wpOp P ops Q i K a w := by
  subst hd
  unfold wpOp
  simp only [ho, hw, if_true, Oper.wp, hy, Oper.upon]
  exact .inl h
theorem wpOp_skipD {P : Program} {ops : Array Oper} {Q : Exit → Act → World → Prop} {i : Nat} {o : Oper} {K : Act → World → Prop} {a : Act} {w : World} (ho : ops[i]? = some o) (hd : o.dst = none) (hw : Region.wanted o (yielded ops a.tmps) = true)
    (w' : World) (hy : (execOp a.eval o).run P w = .ok .skip w') (h : K a w') : wpOp P ops Q i K a w := by
  unfold wpOp
  simp only [ho, hw, if_true, Oper.wp, hy, Oper.upon, hd]
  exact .inl h
theorem wpAny_last {P : Program} {ops : Array Oper} {Q : Exit → Act → World → Prop} {md : Region.Mode} {i : Nat} {listed : Array Bool} {a : Act} {w : World} (hr : Region.ready md ops listed = [i]) (hr2 : Region.ready md ops (listed.setIfInBounds i true) = [])
    (h : wpOp P ops Q i (fun a w => Q .normal a w) a w) : wpAny P md ops Q 1 listed a w :=
  ⟨fun h0 => (by rw [hr] at h0; cases h0), fun j hj => by
    rw [hr] at hj
    have e := List.mem_singleton.1 hj
    subst e
    exact wpOp_mono (fun a' w' hq => ⟨hr2, hq⟩) h⟩
def A5 (a0 : Act) (d0 d1 d2 d3 d4 dB : Tmp) (x0 x1 x2 x3 x4 y : Value) : Act := ((((((a0.put (some d0) x0).put (some d1) x1).put (some d2) x2).put (some d3) x3).put (some d4) x4).put (some dB) y)
def L5 (L0 : Array Bool) (i0 i1 i2 i3 i4 iB : Nat) (b0 b1 b2 b3 b4 c : Bool) : Array Bool := ((((((L0.setIfInBounds i0 b0).setIfInBounds i1 b1).setIfInBounds i2 b2).setIfInBounds i3 b3).setIfInBounds i4 b4).setIfInBounds iB c)
def pick5 {α : Type} (a0 a1 a2 a3 a4 : α) (k : Nat) : α := if k = 0 then a0 else if k = 1 then a1 else if k = 2 then a2 else if k = 3 then a3 else a4
set_option maxHeartbeats 1600000 in
theorem makes5 {P : Program} {ops : Array Oper} {Q : Exit → Act → World → Prop} {md : Region.Mode} {fuel : Nat} {a0 : Act} {L0 : Array Bool} {w0 : World} (d0 d1 d2 d3 d4 dB : Tmp) (i0 i1 i2 i3 i4 iB : Nat)
    (o0 o1 o2 o3 o4 : Obj) (v0 v1 v2 v3 v4 : Nat → Value) (VB : Value → Value → Value → Value → Value)
    (hA0 : (A5 a0 d0 d1 d2 d3 d4 dB undef undef undef undef undef undef) = a0)
    (hL0 : (L5 L0 i0 i1 i2 i3 i4 iB false false false false false false) = L0)
    (hl0 : ∀ b0 b1 b2 b3 b4 c, (L5 L0 i0 i1 i2 i3 i4 iB b0 b1 b2 b3 b4 c).setIfInBounds i0 true = (L5 L0 i0 i1 i2 i3 i4 iB true b1 b2 b3 b4 c))
    (hl1 : ∀ b0 b1 b2 b3 b4 c, (L5 L0 i0 i1 i2 i3 i4 iB b0 b1 b2 b3 b4 c).setIfInBounds i1 true = (L5 L0 i0 i1 i2 i3 i4 iB b0 true b2 b3 b4 c))
    (hl2 : ∀ b0 b1 b2 b3 b4 c, (L5 L0 i0 i1 i2 i3 i4 iB b0 b1 b2 b3 b4 c).setIfInBounds i2 true = (L5 L0 i0 i1 i2 i3 i4 iB b0 b1 true b3 b4 c))
    (hl3 : ∀ b0 b1 b2 b3 b4 c, (L5 L0 i0 i1 i2 i3 i4 iB b0 b1 b2 b3 b4 c).setIfInBounds i3 true = (L5 L0 i0 i1 i2 i3 i4 iB b0 b1 b2 true b4 c))
    (hl4 : ∀ b0 b1 b2 b3 b4 c, (L5 L0 i0 i1 i2 i3 i4 iB b0 b1 b2 b3 b4 c).setIfInBounds i4 true = (L5 L0 i0 i1 i2 i3 i4 iB b0 b1 b2 b3 true c))
    (hlB : ∀ b0 b1 b2 b3 b4 c, (L5 L0 i0 i1 i2 i3 i4 iB b0 b1 b2 b3 b4 c).setIfInBounds iB true = (L5 L0 i0 i1 i2 i3 i4 iB b0 b1 b2 b3 b4 true))
    (hr : ∀ b0 b1 b2 b3 b4 c, ∀ i ∈ Region.ready md ops (L5 L0 i0 i1 i2 i3 i4 iB b0 b1 b2 b3 b4 c), (i = i0 ∧ b0 = false) ∨ (i = i1 ∧ b1 = false) ∨ (i = i2 ∧ b2 = false) ∨ (i = i3 ∧ b3 = false) ∨ (i = i4 ∧ b4 = false) ∨ (i = iB ∧ c = false ∧ b0 = true ∧ b1 = true ∧ b2 = true ∧ b3 = true) ∨ (c = true ∧ b0 = true ∧ b1 = true ∧ b2 = true ∧ b3 = true ∧ b4 = true))
    (hn : ∀ b0 b1 b2 b3 b4 c, Region.ready md ops (L5 L0 i0 i1 i2 i3 i4 iB b0 b1 b2 b3 b4 c) = [] → c = true ∧ b0 = true ∧ b1 = true ∧ b2 = true ∧ b3 = true ∧ b4 = true)
    (hs0 : ∀ x0 x1 x2 x3 x4 y (K : Act → World → Prop) (w : World), K (A5 a0 d0 d1 d2 d3 d4 dB (v0 w.heap.size) x1 x2 x3 x4 y) (w.alloc o0) → wpOp P ops Q i0 K (A5 a0 d0 d1 d2 d3 d4 dB x0 x1 x2 x3 x4 y) w)
    (hs1 : ∀ x0 x1 x2 x3 x4 y (K : Act → World → Prop) (w : World), K (A5 a0 d0 d1 d2 d3 d4 dB x0 (v1 w.heap.size) x2 x3 x4 y) (w.alloc o1) → wpOp P ops Q i1 K (A5 a0 d0 d1 d2 d3 d4 dB x0 x1 x2 x3 x4 y) w)
    (hs2 : ∀ x0 x1 x2 x3 x4 y (K : Act → World → Prop) (w : World), K (A5 a0 d0 d1 d2 d3 d4 dB x0 x1 (v2 w.heap.size) x3 x4 y) (w.alloc o2) → wpOp P ops Q i2 K (A5 a0 d0 d1 d2 d3 d4 dB x0 x1 x2 x3 x4 y) w)
    (hs3 : ∀ x0 x1 x2 x3 x4 y (K : Act → World → Prop) (w : World), K (A5 a0 d0 d1 d2 d3 d4 dB x0 x1 x2 (v3 w.heap.size) x4 y) (w.alloc o3) → wpOp P ops Q i3 K (A5 a0 d0 d1 d2 d3 d4 dB x0 x1 x2 x3 x4 y) w)
    (hs4 : ∀ x0 x1 x2 x3 x4 y (K : Act → World → Prop) (w : World), K (A5 a0 d0 d1 d2 d3 d4 dB x0 x1 x2 x3 (v4 w.heap.size) y) (w.alloc o4) → wpOp P ops Q i4 K (A5 a0 d0 d1 d2 d3 d4 dB x0 x1 x2 x3 x4 y) w)
    (hsB : ∀ n0 n1 n2 n3 x4 y (K : Act → World → Prop) (w : World), K (A5 a0 d0 d1 d2 d3 d4 dB (v0 n0) (v1 n1) (v2 n2) (v3 n3) x4 (VB (v0 n0) (v1 n1) (v2 n2) (v3 n3))) w → wpOp P ops Q iB K (A5 a0 d0 d1 d2 d3 d4 dB (v0 n0) (v1 n1) (v2 n2) (v3 n3) x4 y) w)
    (hrest : ∀ (n0 n1 n2 n3 n4 : Nat) (w : World), Ext w0 w → w0.heap.size ≤ n0 ∧ n0 < w.heap.size ∧ w.heap[n0]? = some o0 → w0.heap.size ≤ n1 ∧ n1 < w.heap.size ∧ w.heap[n1]? = some o1 → w0.heap.size ≤ n2 ∧ n2 < w.heap.size ∧ w.heap[n2]? = some o2 → w0.heap.size ≤ n3 ∧ n3 < w.heap.size ∧ w.heap[n3]? = some o3 → w0.heap.size ≤ n4 ∧ n4 < w.heap.size ∧ w.heap[n4]? = some o4 → n0 ≠ n1 ∧ n0 ≠ n2 ∧ n0 ≠ n3 ∧ n0 ≠ n4 ∧ n1 ≠ n2 ∧ n1 ≠ n3 ∧ n1 ≠ n4 ∧ n2 ≠ n3 ∧ n2 ≠ n4 ∧ n3 ≠ n4 → wpAny P md ops Q fuel (L5 L0 i0 i1 i2 i3 i4 iB true true true true true true) (A5 a0 d0 d1 d2 d3 d4 dB (v0 n0) (v1 n1) (v2 n2) (v3 n3) (v4 n4) (VB (v0 n0) (v1 n1) (v2 n2) (v3 n3))) w) :
    wpAny P md ops Q (fuel + 6) L0 a0 w0 := by
  obtain ⟨A, hA⟩ : ∃ A : (Nat → Value) → Value → Act, ∀ x y, A x y = (A5 a0 d0 d1 d2 d3 d4 dB (x 0) (x 1) (x 2) (x 3) (x 4) y) := ⟨fun x y => _, fun _ _ => rfl⟩
  obtain ⟨L, hL⟩ : ∃ L : (Nat → Bool) → Bool → Array Bool, ∀ b c, L b c = (L5 L0 i0 i1 i2 i3 i4 iB (b 0) (b 1) (b 2) (b 3) (b 4) c) := ⟨fun b c => _, fun _ _ => rfl⟩
  obtain ⟨idx, hi⟩ : ∃ f : Nat → Nat, f 0 = i0 ∧ f 1 = i1 ∧ f 2 = i2 ∧ f 3 = i3 ∧ f 4 = i4 := ⟨pick5 i0 i1 i2 i3 i4, rfl, rfl, rfl, rfl, rfl⟩
  obtain ⟨o, ho⟩ : ∃ f : Nat → Obj, f 0 = o0 ∧ f 1 = o1 ∧ f 2 = o2 ∧ f 3 = o3 ∧ f 4 = o4 := ⟨pick5 o0 o1 o2 o3 o4, rfl, rfl, rfl, rfl, rfl⟩
  obtain ⟨v, hv⟩ : ∃ f : Nat → Nat → Value, f 0 = v0 ∧ f 1 = v1 ∧ f 2 = v2 ∧ f 3 = v3 ∧ f 4 = v4 := ⟨pick5 v0 v1 v2 v3 v4, rfl, rfl, rfl, rfl, rfl⟩
  obtain ⟨hi0, hi1, hi2, hi3, hi4⟩ := hi
  obtain ⟨ho0, ho1, ho2, ho3, ho4⟩ := ho
  obtain ⟨hv0, hv1, hv2, hv3, hv4⟩ := hv
  have k1 : ∀ x x' y, (∀ k, k < 5 → x k = x' k) → A x y = A x' y := fun x x' y h => by
    rw [hA, hA, h 0 (by omega), h 1 (by omega), h 2 (by omega), h 3 (by omega), h 4 (by omega)]
  have k2 : ∀ b b' c, (∀ k, k < 5 → b k = b' k) → L b c = L b' c := fun b b' c h => by
    rw [hL, hL, h 0 (by omega), h 1 (by omega), h 2 (by omega), h 3 (by omega), h 4 (by omega)]
  have k3 : ∀ x x' : Nat → Value, (∀ k, k < 4 → x k = x' k) → VB (x 0) (x 1) (x 2) (x 3) = VB (x' 0) (x' 1) (x' 2) (x' 3) := fun x x' h => by
    rw [h 0 (by omega), h 1 (by omega), h 2 (by omega), h 3 (by omega)]
  have k4 : ∀ b c k, k < 5 → (L b c).setIfInBounds (idx k) true = L (updF b k true) c := fun b c k hk => by
    rw [hL, hL]
    rcases (show k = 0 ∨ k = 1 ∨ k = 2 ∨ k = 3 ∨ k = 4 by omega) with rfl | rfl | rfl | rfl | rfl
    · rw [hi0, hl0, updF_same, updF_ne b true (show 1 ≠ 0 by omega), updF_ne b true (show 2 ≠ 0 by omega), updF_ne b true (show 3 ≠ 0 by omega), updF_ne b true (show 4 ≠ 0 by omega)]
    · rw [hi1, hl1, updF_same, updF_ne b true (show 0 ≠ 1 by omega), updF_ne b true (show 2 ≠ 1 by omega), updF_ne b true (show 3 ≠ 1 by omega), updF_ne b true (show 4 ≠ 1 by omega)]
    · rw [hi2, hl2, updF_same, updF_ne b true (show 0 ≠ 2 by omega), updF_ne b true (show 1 ≠ 2 by omega), updF_ne b true (show 3 ≠ 2 by omega), updF_ne b true (show 4 ≠ 2 by omega)]
    · rw [hi3, hl3, updF_same, updF_ne b true (show 0 ≠ 3 by omega), updF_ne b true (show 1 ≠ 3 by omega), updF_ne b true (show 2 ≠ 3 by omega), updF_ne b true (show 4 ≠ 3 by omega)]
    · rw [hi4, hl4, updF_same, updF_ne b true (show 0 ≠ 4 by omega), updF_ne b true (show 1 ≠ 4 by omega), updF_ne b true (show 2 ≠ 4 by omega), updF_ne b true (show 3 ≠ 4 by omega)]
  have k5 : ∀ b c, (L b c).setIfInBounds iB true = L b true := fun b c => by rw [hL, hL, hlB]
  have k6 : ∀ b c i, i ∈ Region.ready md ops (L b c) → (∃ k, k < 5 ∧ i = idx k ∧ b k = false) ∨ (i = iB ∧ c = false ∧ ∀ k, k < 4 → b k = true) ∨ (c = true ∧ ∀ k, k < 5 → b k = true) := fun b c i h => by
    rw [hL] at h
    rcases hr _ _ _ _ _ _ i h with ⟨h, h'⟩ | ⟨h, h'⟩ | ⟨h, h'⟩ | ⟨h, h'⟩ | ⟨h, h'⟩ | ⟨h, h', g0, g1, g2, g3⟩ | ⟨hc, g0, g1, g2, g3, g4⟩
    · exact .inl ⟨0, by omega, by rw [hi0, h], h'⟩
    · exact .inl ⟨1, by omega, by rw [hi1, h], h'⟩
    · exact .inl ⟨2, by omega, by rw [hi2, h], h'⟩
    · exact .inl ⟨3, by omega, by rw [hi3, h], h'⟩
    · exact .inl ⟨4, by omega, by rw [hi4, h], h'⟩
    · refine .inr (.inl ⟨h, h', fun k hk => ?_⟩)
      rcases (show k = 0 ∨ k = 1 ∨ k = 2 ∨ k = 3 by omega) with rfl | rfl | rfl | rfl
      · exact g0
      · exact g1
      · exact g2
      · exact g3
    · refine .inr (.inr ⟨hc, fun k hk => ?_⟩)
      rcases (show k = 0 ∨ k = 1 ∨ k = 2 ∨ k = 3 ∨ k = 4 by omega) with rfl | rfl | rfl | rfl | rfl
      · exact g0
      · exact g1
      · exact g2
      · exact g3
      · exact g4
  have k7 : ∀ b c, Region.ready md ops (L b c) = [] → c = true ∧ ∀ k, k < 5 → b k = true := fun b c h => by
    rw [hL] at h
    obtain ⟨hc, g0, g1, g2, g3, g4⟩ := hn _ _ _ _ _ _ h
    refine ⟨hc, fun k hk => ?_⟩
    rcases (show k = 0 ∨ k = 1 ∨ k = 2 ∨ k = 3 ∨ k = 4 by omega) with rfl | rfl | rfl | rfl | rfl
    · exact g0
    · exact g1
    · exact g2
    · exact g3
    · exact g4
  have k8 : ∀ k (x : Nat → Value) y (K : Act → World → Prop) w, k < 5 → K (A (updF x k (v k w.heap.size)) y) (w.alloc (o k)) → wpOp P ops Q (idx k) K (A x y) w := fun k x y K w hk hK => by
    rw [hA] at hK ⊢
    rcases (show k = 0 ∨ k = 1 ∨ k = 2 ∨ k = 3 ∨ k = 4 by omega) with rfl | rfl | rfl | rfl | rfl
    · rw [updF_same, updF_ne x _ (show 1 ≠ 0 by omega), updF_ne x _ (show 2 ≠ 0 by omega), updF_ne x _ (show 3 ≠ 0 by omega), updF_ne x _ (show 4 ≠ 0 by omega), hv0, ho0] at hK
      rw [hi0]
      exact hs0 _ _ _ _ _ _ K w hK
    · rw [updF_same, updF_ne x _ (show 0 ≠ 1 by omega), updF_ne x _ (show 2 ≠ 1 by omega), updF_ne x _ (show 3 ≠ 1 by omega), updF_ne x _ (show 4 ≠ 1 by omega), hv1, ho1] at hK
      rw [hi1]
      exact hs1 _ _ _ _ _ _ K w hK
    · rw [updF_same, updF_ne x _ (show 0 ≠ 2 by omega), updF_ne x _ (show 1 ≠ 2 by omega), updF_ne x _ (show 3 ≠ 2 by omega), updF_ne x _ (show 4 ≠ 2 by omega), hv2, ho2] at hK
      rw [hi2]
      exact hs2 _ _ _ _ _ _ K w hK
    · rw [updF_same, updF_ne x _ (show 0 ≠ 3 by omega), updF_ne x _ (show 1 ≠ 3 by omega), updF_ne x _ (show 2 ≠ 3 by omega), updF_ne x _ (show 4 ≠ 3 by omega), hv3, ho3] at hK
      rw [hi3]
      exact hs3 _ _ _ _ _ _ K w hK
    · rw [updF_same, updF_ne x _ (show 0 ≠ 4 by omega), updF_ne x _ (show 1 ≠ 4 by omega), updF_ne x _ (show 2 ≠ 4 by omega), updF_ne x _ (show 3 ≠ 4 by omega), hv4, ho4] at hK
      rw [hi4]
      exact hs4 _ _ _ _ _ _ K w hK
  have k9 : ∀ (n : Nat → Nat) (x : Nat → Value) y (K : Act → World → Prop) w, (∀ k, k < 4 → x k = v k (n k)) → K (A x (VB (x 0) (x 1) (x 2) (x 3))) w → wpOp P ops Q iB K (A x y) w := fun n x y K w hx hK => by
    rw [hA] at hK ⊢
    rw [hx 0 (by omega), hx 1 (by omega), hx 2 (by omega), hx 3 (by omega), hv0, hv1, hv2, hv3] at hK ⊢
    exact hsB _ _ _ _ _ _ K w hK
  have k10 : ∀ (n : Nat → Nat) w, Made 5 o w0 (fun _ => true) n w → wpAny P md ops Q fuel (L (fun _ => true) true) (A (fun k => v k (n k)) (VB (v 0 (n 0)) (v 1 (n 1)) (v 2 (n 2)) (v 3 (n 3)))) w := fun n w h => by
    have g0 := h.own 0 (by omega) rfl
    have g1 := h.own 1 (by omega) rfl
    have g2 := h.own 2 (by omega) rfl
    have g3 := h.own 3 (by omega) rfl
    have g4 := h.own 4 (by omega) rfl
    rw [ho0] at g0
    rw [ho1] at g1
    rw [ho2] at g2
    rw [ho3] at g3
    rw [ho4] at g4
    rw [hA, hL, hv0, hv1, hv2, hv3, hv4]
    exact hrest (n 0) (n 1) (n 2) (n 3) (n 4) w h.ext g0 g1 g2 g3 g4
      ⟨h.apart 0 1 (by omega) (by omega) (by omega) rfl rfl, h.apart 0 2 (by omega) (by omega) (by omega) rfl rfl, h.apart 0 3 (by omega) (by omega) (by omega) rfl rfl, h.apart 0 4 (by omega) (by omega) (by omega) rfl rfl, h.apart 1 2 (by omega) (by omega) (by omega) rfl rfl, h.apart 1 3 (by omega) (by omega) (by omega) rfl rfl, h.apart 1 4 (by omega) (by omega) (by omega) rfl rfl, h.apart 2 3 (by omega) (by omega) (by omega) rfl rfl, h.apart 2 4 (by omega) (by omega) (by omega) rfl rfl, h.apart 3 4 (by omega) (by omega) (by omega) rfl rfl⟩
  have key := wpAny_makes (VB := fun x => VB (x 0) (x 1) (x 2) (x 3)) (NB := 4) k1 k2 k3 (by omega) k4 k5 k6 k7 k8 k9 k10
    6 (fun _ => false) false (fun _ => undef) undef (fun _ => 0) w0
    ⟨Ext.refl _, fun k _ hb => Bool.noConfusion hb, fun i j _ _ _ hb _ => Bool.noConfusion hb⟩ (fun k _ => rfl) (fun h => Bool.noConfusion h) rfl
  rw [hA, hL, hA0, hL0] at key
  exact key
end Go.Proofs.Ytjpomfdmgaambaa
