/- Longest chains in a strict order: plain. No program in sight. -/
import Derived.Test.YtolmmhdeebgglaaLib
namespace Go.Proofs.Ytolmmhdeebgglaa

/-- the first longest of the lists f k, k below m, where p holds -/
def bst (p : Nat → Bool) (f : Nat → List Int) : Nat → List Int
  | 0 => []
  | m + 1 => if p m = true ∧ (bst p f m).length < (f m).length then f m else bst p f m
theorem bst_congr {p : Nat → Bool} {f g : Nat → List Int} : ∀ m, (∀ k, k < m → p k = true → f k = g k) → bst p f m = bst p g m
  | 0, _ => rfl
  | m + 1, h => by
    have ih := bst_congr m (fun k hk => h k (by omega))
    unfold bst
    rw [ih]
    by_cases hp : p m = true
    · rw [h m (by omega) hp]
    · simp [hp]
theorem bst_spec {p : Nat → Bool} {f : Nat → List Int} : ∀ m, (∀ k, k < m → p k = true → (f k).length ≤ (bst p f m).length) ∧
    (bst p f m = [] ∨ ∃ k, k < m ∧ p k = true ∧ bst p f m = f k ∧ ∀ j, j < k → p j = true → (f j).length < (f k).length)
  | 0 => ⟨fun k hk => by omega, .inl rfl⟩
  | m + 1 => by
    obtain ⟨h1, h2⟩ := bst_spec (p := p) (f := f) m
    unfold bst
    split
    · rename_i hc
      refine ⟨fun k hk hp => ?_, .inr ⟨m, by omega, hc.1, rfl, fun j hj hp => by have := h1 j hj hp; omega⟩⟩
      by_cases e : k = m
      · rw [e]; omega
      · have := h1 k (by omega) hp; omega
    · rename_i hc
      refine ⟨fun k hk hp => ?_, ?_⟩
      · by_cases e : k = m
        · rw [e] at hp ⊢
          by_cases hl : (bst p f m).length < (f m).length
          · exact absurd ⟨hp, hl⟩ hc
          · omega
        · exact h1 k (by omega) hp
      · rcases h2 with h2 | ⟨k, a, b, c, d⟩
        · exact .inl h2
        · exact .inr ⟨k, by omega, b, c, d⟩
/-- what is asked of the order -/
structure Strict (n : Nat) (lt : Nat → Nat → Bool) : Prop where
  tr : ∀ a b c, a < n → b < n → c < n → lt a b = true → lt b c = true → lt a c = true
  ir : ∀ a, lt a a = false
def below (n : Nat) (lt : Nat → Nat → Bool) (i : Nat) : Nat := ((List.range n).filter fun k => lt k i).length
theorem filter_len_lt {α : Type} {p q : α → Bool} : ∀ (l : List α), (∀ x ∈ l, p x = true → q x = true) → (∃ x ∈ l, p x = false ∧ q x = true) → (l.filter p).length < (l.filter q).length
  | [], _, h => by obtain ⟨x, hx, _⟩ := h; cases hx
  | a :: t, h1, h2 => by
    have hle : ∀ (l : List α), (∀ x ∈ l, p x = true → q x = true) → (l.filter p).length ≤ (l.filter q).length := by
      intro l
      induction l with
      | nil => intro _; exact Nat.le_refl _
      | cons b u ih =>
        intro h
        have i1 := ih (fun x hx => h x (by simp [hx]))
        have i2 := h b (by simp)
        simp only [List.filter_cons]
        by_cases hp : p b = true
        · simp [hp, i2 hp]; exact i1
        · simp [hp]
          split
          · simp; omega
          · exact i1
    obtain ⟨x, hx, px, qx⟩ := h2
    simp only [List.filter_cons]
    rcases List.mem_cons.1 hx with e | e
    · subst e
      have := hle t (fun y hy => h1 y (by simp [hy]))
      simp [px, qx]
      omega
    · have ih := filter_len_lt t (fun y hy => h1 y (by simp [hy])) ⟨x, e, px, qx⟩
      by_cases hp : p a = true
      · simp [hp, h1 a (by simp) hp]; exact ih
      · simp [hp]
        split
        · simp; omega
        · exact ih
theorem below_lt {n : Nat} {lt : Nat → Nat → Bool} (h : Strict n lt) {k i : Nat} (hk : k < n) (hi : i < n) (hl : lt k i = true) : below n lt k < below n lt i :=
  filter_len_lt _ (fun x hx hp => h.tr x k i (List.mem_range.1 hx) hk hi hp hl) ⟨k, List.mem_range.2 hk, h.ir k, hl⟩
theorem below_le (n : Nat) (lt : Nat → Nat → Bool) (i : Nat) : below n lt i ≤ n := by
  have := List.length_filter_le (fun k => lt k i) (List.range n)
  simpa [below] using this
/-- a longest chain that begins at i, with fuel -/
def chF (n : Nat) (lt : Nat → Nat → Bool) : Nat → Nat → List Int
  | 0, _ => []
  | f + 1, i => (i : Int) :: bst (fun k => lt k i) (chF n lt f) n
theorem chF_same {n : Nat} {lt : Nat → Nat → Bool} (h : Strict n lt) : ∀ d i, i < n → below n lt i ≤ d → ∀ f g, below n lt i < f → below n lt i < g → chF n lt f i = chF n lt g i := by
  intro d
  induction d with
  | zero =>
    intro i hi hd f g hf hg
    obtain ⟨F, rfl⟩ : ∃ F, f = F + 1 := ⟨f - 1, by omega⟩
    obtain ⟨G, rfl⟩ : ∃ G, g = G + 1 := ⟨g - 1, by omega⟩
    unfold chF
    rw [bst_congr n (fun k hk hp => by have := below_lt h hk hi hp; omega)]
  | succ d ih =>
    intro i hi hd f g hf hg
    obtain ⟨F, rfl⟩ : ∃ F, f = F + 1 := ⟨f - 1, by omega⟩
    obtain ⟨G, rfl⟩ : ∃ G, g = G + 1 := ⟨g - 1, by omega⟩
    unfold chF
    rw [bst_congr n (fun k hk hp => by
      have := below_lt h hk hi hp
      exact ih k hk (by omega) F G (by omega) (by omega))]
def chn (n : Nat) (lt : Nat → Nat → Bool) (i : Nat) : List Int := chF n lt (n + 1) i
def bstB (n : Nat) (lt : Nat → Nat → Bool) (i m : Nat) : List Int := bst (fun k => lt k i) (chn n lt) m
theorem chn_eq {n : Nat} {lt : Nat → Nat → Bool} (h : Strict n lt) {i : Nat} (hi : i < n) : chn n lt i = (i : Int) :: bstB n lt i n := by
  show (i : Int) :: bst (fun k => lt k i) (chF n lt n) n = _
  unfold bstB
  rw [bst_congr n (fun k hk hp => by
    have h1 := below_lt h hk hi hp
    have h2 := below_le n lt i
    have h3 := below_le n lt k
    exact chF_same h (below n lt k) k hk (Nat.le_refl _) n (n + 1) (by omega) (by omega))]
  rfl
def hgt (n : Nat) (lt : Nat → Nat → Bool) (i : Nat) : Nat := (chn n lt i).length
theorem hgt_pos {n : Nat} {lt : Nat → Nat → Bool} (h : Strict n lt) {i : Nat} (hi : i < n) : 1 ≤ hgt n lt i := by
  unfold hgt; rw [chn_eq h hi]; simp
theorem hgt_below {n : Nat} {lt : Nat → Nat → Bool} (h : Strict n lt) {k i : Nat} (hk : k < n) (hi : i < n) (hl : lt k i = true) : hgt n lt k + 1 ≤ hgt n lt i := by
  have h1 := (bst_spec (p := fun k => lt k i) (f := chn n lt) n).1 k hk hl
  unfold hgt
  rw [chn_eq h hi]
  simp only [List.length_cons]
  unfold bstB
  omega
/-- either i stands alone, or its chain goes on with the first one below it that is as high as can be -/
theorem chn_next {n : Nat} {lt : Nat → Nat → Bool} (h : Strict n lt) {i : Nat} (hi : i < n) :
    (chn n lt i = [(i : Int)] ∧ hgt n lt i = 1) ∨ ∃ k, k < n ∧ lt k i = true ∧ chn n lt i = (i : Int) :: chn n lt k ∧ hgt n lt i = hgt n lt k + 1 ∧ ∀ j, j < k → lt j i = true → hgt n lt j < hgt n lt k := by
  have he := chn_eq h hi
  rcases (bst_spec (p := fun k => lt k i) (f := chn n lt) n).2 with h2 | ⟨k, a, b, c, d⟩
  · left
    have : bstB n lt i n = [] := h2
    rw [this] at he
    exact ⟨he, by unfold hgt; rw [he]; rfl⟩
  · right
    have : bstB n lt i n = chn n lt k := c
    rw [this] at he
    exact ⟨k, a, b, he, by unfold hgt; rw [he]; rfl, d⟩
theorem hgt_le {n : Nat} {lt : Nat → Nat → Bool} (h : Strict n lt) : ∀ d i, i < n → below n lt i ≤ d → hgt n lt i ≤ below n lt i + 1 := by
  intro d
  induction d with
  | zero =>
    intro i hi hd
    rcases chn_next h hi with ⟨_, e⟩ | ⟨k, hk, hl, _, _, _⟩
    · omega
    · have := below_lt h hk hi hl; omega
  | succ d ih =>
    intro i hi hd
    rcases chn_next h hi with ⟨_, e⟩ | ⟨k, hk, hl, _, e, _⟩
    · omega
    · have h1 := below_lt h hk hi hl
      have h2 := ih k hk (by omega)
      omega
theorem hgt_len {n : Nat} {lt : Nat → Nat → Bool} (h : Strict n lt) {i : Nat} (hi : i < n) : hgt n lt i ≤ n := by
  have h1 := hgt_le h _ i hi (Nat.le_refl _)
  have h2 : below n lt i < n := by
    have : below n lt i < ((List.range n).filter fun _ => true).length := filter_len_lt _ (fun _ _ _ => rfl) ⟨i, List.mem_range.2 hi, h.ir i, rfl⟩
    rw [show ((List.range n).filter fun _ => true) = List.range n from List.filter_eq_self.2 (fun _ _ => rfl), List.length_range] at this
    exact this
  omega
/-- the first longest chain of all -/
def topL (n : Nat) (lt : Nat → Nat → Bool) (m : Nat) : List Int := bst (fun _ => true) (chn n lt) m
theorem topL_is {n : Nat} {lt : Nat → Nat → Bool} (h : Strict n lt) (hn : 0 < n) : ∃ i, i < n ∧ topL n lt n = chn n lt i ∧ (∀ k, k < n → hgt n lt k ≤ hgt n lt i) ∧ ∀ j, j < i → hgt n lt j < hgt n lt i := by
  have h1 := bst_spec (p := fun _ => true) (f := chn n lt) n
  rcases h1.2 with h2 | ⟨k, a, _, c, d⟩
  · have h3 := h1.1 0 hn rfl
    have h4 := hgt_pos h hn
    rw [h2] at h3
    unfold hgt at h4
    simp at h3
    rw [h3] at h4
    simp at h4
  · refine ⟨k, a, c, fun j hj => ?_, fun j hj => d j hj rfl⟩
    have h3 := h1.1 j hj rfl
    rw [c] at h3
    exact h3
end Go.Proofs.Ytolmmhdeebgglaa
