/- Breadth-first search from several sources, and what a filling gains along a path: plain, no program in sight. -/
import Derived.Test.YtodnkahnbidgaaaFillW0
namespace Go.Proofs.Ytodnkahnbidgaaa
open Fm

/-- a search under way from all sources: B: whence each node was reached (-1: a source, -2: not yet), vis: the nodes reached, in their order -/
structure Mbfs (N : Nat) (r : Nat → Nat → Int) (src : Nat → Bool) (B : List Int) (vis : List Nat) : Prop where
  blen : B.length = N
  nodup : vis.Nodup
  lt : ∀ v ∈ vis, v < N
  neg : ∀ v, v < N → v ∉ vis → ix B v = -2
  bk : ∀ i, i < vis.length → (ix B (vat vis i) = -1 ∧ src (vat vis i) = true) ∨ ∃ j, j < i ∧ ix B (vat vis i) = (vat vis j : Int) ∧ 0 < r (vat vis j) (vat vis i)
  all : ∀ v, v < N → src v = true → v ∈ vis
/-- the sources below k -/
def srcs (src : Nat → Bool) (k : Nat) : List Nat := (List.range k).filter src
theorem srcs_succ (src : Nat → Bool) (k : Nat) : srcs src (k + 1) = if src k = true then srcs src k ++ [k] else srcs src k := by
  unfold srcs
  rw [List.range_succ, List.filter_append]
  by_cases h : src k = true
  · simp [h]
  · simp [h]
theorem srcs_length (src : Nat → Bool) (k : Nat) : (srcs src k).length ≤ k := by
  have := List.length_filter_le src (List.range k)
  simpa [srcs] using this
namespace Mbfs
variable {N t h v : Nat} {r : Nat → Nat → Int} {src : Nat → Bool} {B : List Int} {vis : List Nat}
theorem start {B : List Int} (hB : B.length = N) (hn : ∀ v, v < N → ix B v = if src v = true then -1 else -2) : Mbfs N r src B (srcs src N) where
  blen := hB
  nodup := List.nodup_range.filter _
  lt v hv := by simp [srcs] at hv; exact hv.1
  neg v hv hm := by
    rw [hn v hv, if_neg (fun e => hm (by simp [srcs, hv, e]))]
  bk i hi := by
    have hm : vat (srcs src N) i < N ∧ src (vat (srcs src N) i) = true := by
      have hm := vat_mem hi
      have e : ∀ v, v ∈ srcs src N → v < N ∧ src v = true := fun v hv => by simpa [srcs] using hv
      exact e _ hm
    exact .inl ⟨by rw [hn _ hm.1, if_pos hm.2], hm.2⟩
  all v hv e := by simp [srcs, hv, e]
theorem length_le (h : Mbfs N r src B vis) : vis.length ≤ N := nodup_length_le N vis h.nodup h.lt
theorem at_ (_h : Mbfs N r src B vis) (hv : v ∈ vis) : ∃ i, i < vis.length ∧ vat vis i = v := by
  obtain ⟨i, hi, e⟩ := List.getElem_of_mem hv
  exact ⟨i, hi, by rw [vat_eq hi]; exact e⟩
theorem ge (h : Mbfs N r src B vis) (hv : v ∈ vis) : -1 ≤ ix B v ∧ ix B v < N := by
  obtain ⟨i, hi, rfl⟩ := h.at_ hv
  rcases h.bk i hi with ⟨e, _⟩ | ⟨j, hj, e, _⟩
  · omega
  · have := h.lt _ (vat_mem (vis := vis) (i := j) (by omega)); omega
theorem mem_iff (h : Mbfs N r src B vis) (hv : v < N) : v ∉ vis ↔ ix B v = -2 := by
  constructor
  · exact h.neg v hv
  · intro e hm; have := h.ge hm; omega
theorem range (h : Mbfs N r src B vis) (hv : v < N) : -2 ≤ ix B v ∧ ix B v < N := by
  by_cases hm : v ∈ vis
  · have := h.ge hm; omega
  · have := h.neg v hv hm; omega
theorem add (h : Mbfs N r src B vis) {k : Nat} (hk : k < vis.length) (hv : v < N) (hnot : v ∉ vis) (hr : 0 < r (vat vis k) v) : Mbfs N r src (B.set v (vat vis k : Int)) (vis ++ [v]) where
  blen := by simp [h.blen]
  nodup := by
    rw [List.nodup_append]
    refine ⟨h.nodup, by simp, fun a ha b hb => ?_⟩
    simp at hb; subst hb; exact fun e => hnot (e ▸ ha)
  lt u hu := by
    simp at hu
    rcases hu with hu | rfl
    · exact h.lt u hu
    · exact hv
  neg u hu hm := by
    simp at hm
    rw [ix_set, if_neg (fun e => hm.2 e.1)]; exact h.neg u hu hm.1
  all u hu e := by simp [h.all u hu e]
  bk i h1 := by
    simp at h1
    by_cases e : i = vis.length
    · subst e
      refine .inr ⟨k, hk, ?_, ?_⟩
      · rw [vat_last, vat_left hk, ix_set, if_pos ⟨rfl, by rw [h.blen]; exact hv⟩]
      · rw [vat_last, vat_left hk]; exact hr
    · have hi : i < vis.length := by omega
      have hne : vat vis i ≠ v := fun e => hnot (e ▸ vat_mem hi)
      rcases h.bk i hi with ⟨e1, e2⟩ | ⟨j, hj, e1, e2⟩
      · refine .inl ⟨?_, ?_⟩
        · rw [vat_left hi, ix_set, if_neg (fun e => hne e.1)]; exact e1
        · rw [vat_left hi]; exact e2
      · refine .inr ⟨j, hj, ?_, ?_⟩
        · rw [vat_left hi, vat_left (by omega), ix_set, if_neg (fun e => hne e.1)]; exact e1
        · rw [vat_left hi, vat_left (by omega)]; exact e2
/-- the way back from a node that was reached -/
theorem chainAt (h : Mbfs N r src B vis) : ∀ (i : Nat), i < vis.length → ∃ s l, Chain (bkOf B) s (vat vis i) l ∧ l.Nodup ∧ s < N ∧ ix B s = -1 ∧ src s = true ∧
    (∀ w, w ∈ l → w < N ∧ bkOf B w < N ∧ 0 < r (bkOf B w) w ∧ w ≠ s ∧ ix B w = (bkOf B w : Int)) ∧ (∀ w, w ∈ l → ∃ j, j ≤ i ∧ vat vis j = w) := by
  intro i
  induction i using Nat.strongRecOn with
  | _ i ih =>
    intro hi
    have hinj : ∀ a b, a < vis.length → b < vis.length → vat vis a = vat vis b → a = b := fun a b ha hb e => by
      rw [vat_eq ha, vat_eq hb] at e
      rw [← h.nodup.idxOf_getElem a ha, ← h.nodup.idxOf_getElem b hb, e]
    rcases h.bk i hi with ⟨e1, e2⟩ | ⟨j, hj, e1, e2⟩
    · exact ⟨vat vis i, [], rfl, List.nodup_nil, h.lt _ (vat_mem hi), e1, e2, fun w hw => by simp at hw, fun w hw => by simp at hw⟩
    · obtain ⟨s, l, hc, hn, hs, hs1, hs2, hl, hlt⟩ := ih j hj (by omega)
      have hb : bkOf B (vat vis i) = vat vis j := by unfold bkOf; rw [e1]; simp
      have hne : vat vis i ≠ s := fun e => by rw [e, hs1] at e1; omega
      refine ⟨s, vat vis i :: l, ⟨rfl, hne, by rw [hb]; exact hc⟩, List.nodup_cons.2 ⟨fun hm => ?_, hn⟩, hs, hs1, hs2, fun w hw => ?_, fun w hw => ?_⟩
      · obtain ⟨k, hk, e⟩ := hlt _ hm
        have := hinj k i (by omega) hi e
        omega
      · rcases List.mem_cons.1 hw with rfl | hw
        · refine ⟨h.lt _ (vat_mem hi), ?_, ?_, hne, ?_⟩
          · rw [hb]; exact h.lt _ (vat_mem (by omega))
          · rw [hb]; exact e2
          · rw [hb]; exact e1
        · exact hl w hw
      · rcases List.mem_cons.1 hw with rfl | hw
        · exact ⟨i, Nat.le_refl _, rfl⟩
        · obtain ⟨k, hk, e⟩ := hlt w hw
          exact ⟨k, by omega, e⟩
theorem chain (h : Mbfs N r src B vis) (hv : v ∈ vis) : ∃ s l, Chain (bkOf B) s v l ∧ l.Nodup ∧ s < N ∧ ix B s = -1 ∧ src s = true ∧
    (∀ w, w ∈ l → w < N ∧ bkOf B w < N ∧ 0 < r (bkOf B w) w ∧ w ≠ s ∧ ix B w = (bkOf B w : Int)) := by
  obtain ⟨i, hi, rfl⟩ := h.at_ hv
  obtain ⟨s, l, h1, h2, h3, h4, h5, h6, _⟩ := h.chainAt i hi
  exact ⟨s, l, h1, h2, h3, h4, h5, h6⟩
end Mbfs

/-! ### A filling under way -/
/-- by how much the flow from a node to another one can grow -/
def roomT (T : Tr) (X : List (List Int)) : Nat → Nat → Int := resD T.rows.length (elOf T.lo) (elOf T.hi) (elOf X) (fun _ _ => true)
theorem room_rc {T : Tr} {X : List (List Int)} {i j : Nat} (hi : i < T.rows.length) : roomT T X i (T.rows.length + j) = elOf T.hi i j - elOf X i j := by
  unfold roomT resD; rw [if_pos hi, if_pos (by omega), if_pos rfl]; simp
theorem room_cr {T : Tr} {X : List (List Int)} {i j : Nat} (hi : i < T.rows.length) : roomT T X (T.rows.length + j) i = elOf X i j - elOf T.lo i j := by
  unfold roomT resD; rw [if_neg (by omega), if_pos hi, if_pos rfl]; simp
theorem room_rr {T : Tr} {X : List (List Int)} {i k : Nat} (hi : i < T.rows.length) (hk : k < T.rows.length) : roomT T X i k = 0 := by
  unfold roomT resD; rw [if_pos hi, if_neg (by omega)]
theorem room_cc {T : Tr} {X : List (List Int)} {j l : Nat} : roomT T X (T.rows.length + j) (T.rows.length + l) = 0 := by
  unfold roomT resD; rw [if_neg (by omega), if_neg (by omega)]
/-- X lies within the bounds; rs, cs: what is left of the sums -/
structure SFill (T : Tr) (X : List (List Int)) (rs cs : List Int) : Prop where
  rc : Rc T.rows.length T.cols.length X
  lo : ∀ i j, i < T.rows.length → j < T.cols.length → elOf T.lo i j ≤ elOf X i j
  hi : ∀ i j, i < T.rows.length → j < T.cols.length → elOf X i j ≤ elOf T.hi i j
  rl : rs.length = T.rows.length
  cl : cs.length = T.cols.length
  row : ∀ i, i < T.rows.length → ix rs i = ix T.rows i - S T.cols.length (elOf X i) ∧ 0 ≤ ix rs i
  col : ∀ j, j < T.cols.length → ix cs j = ix T.cols j - S T.rows.length (fun i => elOf X i j) ∧ 0 ≤ ix cs j
namespace SFill
variable {T : Tr} {X : List (List Int)} {rs cs : List Int}
theorem within (h : SFill T X rs cs) : Within T X := ⟨h.rc.len, fun i hi => ⟨h.rc.row i hi, fun j hj => ⟨h.lo i j hi hj, h.hi i j hi hj⟩⟩⟩
theorem fits (h : SFill T X rs cs) : Fits (NetT T) (elOf X) :=
  ⟨h.lo, h.hi, fun i hi => by have := h.row i hi; show S T.cols.length (elOf X i) ≤ ix T.rows i; omega, fun j hj => by have := h.col j hj; show S T.rows.length (fun i => elOf X i j) ≤ ix T.cols j; omega⟩
theorem room_nonneg (h : SFill T X rs cs) {u v : Nat} (hu : u < T.rows.length + T.cols.length) (hv : v < T.rows.length + T.cols.length) : 0 ≤ roomT T X u v := by
  by_cases h1 : u < T.rows.length
  · by_cases h2 : v < T.rows.length
    · rw [room_rr h1 h2]; omega
    · obtain ⟨j, rfl⟩ : ∃ j, v = T.rows.length + j := ⟨v - T.rows.length, by omega⟩
      rw [room_rc h1]; have := h.hi u j h1 (by omega); omega
  · obtain ⟨j, rfl⟩ : ∃ j, u = T.rows.length + j := ⟨u - T.rows.length, by omega⟩
    by_cases h2 : v < T.rows.length
    · rw [room_cr h2]; have := h.lo v j h2 (by omega); omega
    · obtain ⟨l, rfl⟩ : ∃ l, v = T.rows.length + l := ⟨v - T.rows.length, by omega⟩
      rw [room_cc]; omega
/-- the filling is a greatest one when no path leads from what is left of a row to what is left of a column -/
theorem cert (h : SFill T X rs cs) {src : Nat → Bool} {B : List Int} {vis : List Nat} (hb : Mbfs (T.rows.length + T.cols.length) (roomT T X) src B vis) (hs : ∀ i, i < T.rows.length → 0 < ix rs i → src i = true)
    (hc : Closed (T.rows.length + T.cols.length) (roomT T X) vis vis.length) (hn : ∀ j, j < T.cols.length → T.rows.length + j ∈ vis → ix cs j ≤ 0) : ∃ A B, Cert (NetT T) (elOf X) A B := by
  refine ⟨fun i => decide (i ∈ vis), fun j => decide (T.rows.length + j ∈ vis), h.fits, fun i hi e => ?_, fun j hj e => ?_, fun i j hi hj e1 e2 => ?_, fun i j hi hj e1 e2 => ?_⟩
  · have hi' : i < T.rows.length := hi
    have e := of_decide_eq_false e
    have h1 := h.row i hi'
    have h2 : ¬ 0 < ix rs i := fun hp => e (hb.all i (by omega) (hs i hi' hp))
    show S T.cols.length (elOf X i) = ix T.rows i
    omega
  · have hj' : j < T.cols.length := hj
    have e := of_decide_eq_true e
    have h1 := h.col j hj'
    have h2 := hn j hj' e
    show S T.rows.length (fun i => elOf X i j) = ix T.cols j
    omega
  · have hi' : i < T.rows.length := hi
    have hj' : j < T.cols.length := hj
    obtain ⟨k, hk, e⟩ := hb.at_ (of_decide_eq_true e1)
    have h1 := hc k hk (T.rows.length + j) (by omega)
    rw [e, room_rc hi'] at h1
    have h2 : ¬ 0 < elOf T.hi i j - elOf X i j := fun hp => of_decide_eq_false e2 (h1 hp)
    have := h.hi i j hi' hj'
    show elOf X i j = elOf T.hi i j
    omega
  · have hi' : i < T.rows.length := hi
    have hj' : j < T.cols.length := hj
    obtain ⟨k, hk, e⟩ := hb.at_ (of_decide_eq_true e2)
    have h1 := hc k hk i (by omega)
    rw [e, room_cr hi'] at h1
    have h2 : ¬ 0 < elOf X i j - elOf T.lo i j := fun hp => of_decide_eq_false e1 (h1 hp)
    have := h.lo i j hi' hj'
    show elOf X i j = elOf T.lo i j
    omega
/-- c more along a path from a row to a column -/
theorem push (h : SFill T X rs cs) {bk : Nat → Nat} {s e : Nat} {l : List Nat} {c : Int} (hs : s < T.rows.length) (he : e < T.cols.length) (hch : Chain bk s (T.rows.length + e) l) (hn : l.Nodup)
    (hN : ∀ w, w ∈ l → w < T.rows.length + T.cols.length ∧ bk w < T.rows.length + T.cols.length) (hle : ∀ w, w ∈ l → c ≤ roomT T X (bk w) w) (h0 : 0 ≤ c) (hcs : c ≤ ix cs e) (hrs : c ≤ ix rs s)
    {X' : List (List Int)} (rc' : Rc T.rows.length T.cols.length X') (hX : ∀ i j, i < T.rows.length → j < T.cols.length → elOf X' i j = elOf T.hi i j - along bk c l (roomT T X) i (T.rows.length + j)) :
    SFill T X' (rs.set s (ix rs s - c)) (cs.set e (ix cs e - c)) := by
  have hS := (Sent.start (r := roomT T X) (N := T.rows.length + T.cols.length) (s := s) (t := T.rows.length + e) (fun u v hu hv => h.room_nonneg hu hv)).step (by omega) hch hn hN hle h0
  have z : ∀ u v, u < T.rows.length + T.cols.length → v < T.rows.length + T.cols.length → roomT T X u v + roomT T X v u = 0 → along bk c l (roomT T X) u v = 0 := fun u v hu hv e => by
    have h1 := hS.nonneg u v hu hv
    have h2 := hS.nonneg v u hv hu
    have h3 := hS.pair u v hu hv
    omega
  have pr : ∀ i j, i < T.rows.length → j < T.cols.length → along bk c l (roomT T X) (T.rows.length + j) i = elOf X' i j - elOf T.lo i j := fun i j hi hj => by
    have h3 := hS.pair i (T.rows.length + j) (by omega) (by omega)
    rw [room_rc hi, room_cr hi] at h3
    rw [hX i j hi hj]; omega
  refine ⟨rc', fun i j hi hj => ?_, fun i j hi hj => ?_, by simp [h.rl], by simp [h.cl], fun i hi => ?_, fun j hj => ?_⟩
  · have := hS.nonneg (T.rows.length + j) i (by omega) (by omega)
    rw [pr i j hi hj] at this; omega
  · have := hS.nonneg i (T.rows.length + j) (by omega) (by omega)
    rw [hX i j hi hj]; omega
  · have h1 := S_along c (roomT T X) hch hn hN i
    rw [S_append, S_append] at h1
    rw [S_congr (g := fun _ => 0) (fun k (hk : k < T.rows.length) => z i k (by omega) (by omega) (by rw [room_rr hi hk, room_rr hk hi]; rfl)), S_zero] at h1
    rw [S_congr (g := fun _ => 0) (fun k (hk : k < T.rows.length) => room_rr hi hk), S_zero] at h1
    rw [S_congr (g := fun j => elOf T.hi i j - elOf X' i j) (fun j (hj : j < T.cols.length) => by rw [hX i j hi hj]; omega)] at h1
    rw [S_congr (n := T.cols.length) (f := fun j => roomT T X i (T.rows.length + j)) (g := fun j => elOf T.hi i j - elOf X i j) (fun j (hj : j < T.cols.length) => room_rc hi)] at h1
    rw [S_sub, S_sub] at h1
    rw [if_neg (by omega : ¬ i = T.rows.length + e)] at h1
    have h2 := h.row i hi
    have e1 : S T.cols.length (fun j => elOf X i j) = S T.cols.length (elOf X i) := rfl
    have e2 : S T.cols.length (fun j => elOf X' i j) = S T.cols.length (elOf X' i) := rfl
    rw [e1, e2] at h1
    rw [ix_set]
    by_cases k : i = s
    · subst k
      rw [if_pos ⟨rfl, by rw [h.rl]; exact hi⟩]
      rw [if_pos rfl] at h1
      omega
    · rw [if_neg (fun e => k e.1)]
      rw [if_neg k] at h1
      omega
  · have h1 := S_along c (roomT T X) hch hn hN (T.rows.length + j)
    rw [S_append, S_append] at h1
    rw [S_congr (g := fun _ => 0) (fun k (hk : k < T.cols.length) => z (T.rows.length + j) (T.rows.length + k) (by omega) (by omega) (by rw [room_cc, room_cc]; rfl)), S_zero] at h1
    rw [S_congr (n := T.cols.length) (f := fun k => roomT T X (T.rows.length + j) (T.rows.length + k)) (g := fun _ => 0) (fun k _ => room_cc), S_zero] at h1
    rw [S_congr (g := fun i => elOf X' i j - elOf T.lo i j) (fun i (hi : i < T.rows.length) => pr i j hi hj)] at h1
    rw [S_congr (n := T.rows.length) (f := roomT T X (T.rows.length + j)) (g := fun i => elOf X i j - elOf T.lo i j) (fun i (hi : i < T.rows.length) => room_cr hi)] at h1
    rw [S_sub, S_sub] at h1
    rw [if_neg (by omega : ¬ T.rows.length + j = s)] at h1
    have h2 := h.col j hj
    rw [ix_set]
    by_cases k : j = e
    · subst k
      rw [if_pos ⟨rfl, by rw [h.cl]; exact hj⟩]
      rw [if_pos rfl] at h1
      omega
    · rw [if_neg (fun e => k e.1)]
      rw [if_neg (by omega : ¬ T.rows.length + j = T.rows.length + e)] at h1
      omega
/-- one more row of what is left -/
theorem sumLess {s : Nat} {c : Int} (h : SFill T X rs cs) (hs : s < T.rows.length) : (rs.set s (ix rs s - c)).sum = rs.sum - c := by
  rw [sum_S, sum_S, List.length_set, S_pull (k := s) (by rw [h.rl]; exact hs) (ix (rs.set s _)), S_pull (k := s) (by rw [h.rl]; exact hs) (ix rs)]
  rw [ix_set, if_pos ⟨rfl, by rw [h.rl]; exact hs⟩]
  rw [S_congr (g := fun i => if i = s then 0 else ix rs i) (fun i _ => by
    by_cases e : i = s
    · rw [if_pos e, if_pos e]
    · rw [if_neg e, if_neg e, ix_set, if_neg (fun h => e h.1)])]
  omega
end SFill
end Go.Proofs.Ytodnkahnbidgaaa
