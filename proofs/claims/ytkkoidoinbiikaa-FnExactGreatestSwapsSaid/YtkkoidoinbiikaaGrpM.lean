/- KeyGroups: what the program's map of groups holds; the keys in the order of their first record. Plain. -/
import Derived.Test.YtkkoidoinbiikaaGrpS
import Derived.Test.YtkkoidoinbiikaaSortP
import Derived.Maps.GroupsBeside
namespace Go.Proofs.Ytkkoidoinbiikaa
open Go.RowKit Go.Maps Go.ChangeMaps Go.ChangeShapes

/-- the map holds the groups of the first n records -/
def DatOk (s : List Vr) (l : List Pe) (vars : List Int) (D : DataW Unit) (n : Nat) : Prop :=
  ∀ key : Int, D.atKey (.int .i64 key) .nil = if grpTo s l vars key n = [] then .nil else .slice (lits .i64 (grpTo s l vars key n)) []
theorem DatOk.zero (s : List Vr) (l : List Pe) (vars : List Int) : DatOk s l vars (.map []) 0 := fun key => by
  rw [grpTo_zero, if_pos rfl]; rfl
theorem lits_inj {xs ys : List Int} (h : lits (H := Unit) .i64 xs = lits .i64 ys) : xs = ys :=
  (List.map_inj_right (fun a b hab => by simpa using hab)).1 h
theorem dat_zs {w : World} {base : Nat} {v : Value} {zs G : List Int} {d : DataW Unit} (hd : d = if G = [] then .nil else .slice (lits .i64 G) []) (hat : d = rowDatum .i64 v zs) (hoi : w.ownsInts base 3 .i64 v zs) : zs = G := by
  subst hat
  rcases hoi.datum (H := Unit) with ⟨h0, hz⟩ | h1
  · rw [h0] at hd
    by_cases hG : G = []
    · rw [hz, hG]
    · rw [if_neg hG] at hd; cases hd
  · rw [h1] at hd
    by_cases hG : G = []
    · rw [if_pos hG] at hd; cases hd
    · rw [if_neg hG] at hd
      have : lits (H := Unit) .i64 zs = lits .i64 G := by injection hd
      exact lits_inj this
theorem ints_none {w : World} {base : Nat} {v : Value} (hoi : w.ownsInts base 3 .i64 v []) (hn : rowDatum (H := Unit) .i64 v [] = .nil) : v = .slice none 0 0 := by
  rcases hoi.1.2 with ⟨h1, _⟩ | ⟨g, cap, cur, h1, _⟩
  · exact h1
  · rw [h1] at hn; cases hn
theorem ints_some {w : World} {base : Nat} {v : Value} {zs : List Int} (hoi : w.ownsInts base 3 .i64 v zs) (hn : zs ≠ []) : ∃ g c, v = .slice (some ⟨g, 0, none⟩) zs.length c := by
  rcases hoi.1.2 with ⟨_, h2⟩ | ⟨g, cap, cur, h1, _⟩
  · exact absurd (List.length_eq_zero_iff.1 (by simpa using h2)) hn
  · exact ⟨g, cap, h1⟩
/-- one record more -/
theorem DatOk.step {s : List Vr} {l : List Pe} {vars : List Int} {D : DataW Unit} {n : Nat} {key : Int} {w : World} {base : Nat} {v : Value} (h : DatOk s l vars D n) (hD : IsMap D) (hk : keyAt s l vars n = key)
    (hoi : w.ownsInts base 3 .i64 v (grpTo s l vars key n ++ [(n : Int)])) : DatOk s l vars (D.put (.int .i64 key) (rowDatum .i64 v (grpTo s l vars key n ++ [(n : Int)]))) (n + 1) := fun key' => by
  by_cases e : key' = key
  · subst e
    rw [atKey_put_same hD (show WideAt.IsKeyLit (.int .i64 key') from trivial), grpTo_yes hk, if_neg (by simp), hoi.datum_pos (by simp)]
  · rw [atKey_put_other (fun x => e (by injection x)), grpTo_no (fun x => e (by rw [← x, hk])), h key']
/-- the keys in the order of their first record -/
def fstKeys (s : List Vr) (l : List Pe) (vars : List Int) : Nat → List Int
  | 0 => []
  | n + 1 => if grpTo s l vars (keyAt s l vars n) n = [] then fstKeys s l vars n ++ [keyAt s l vars n] else fstKeys s l vars n
theorem mem_grpTo {s : List Vr} {l : List Pe} {vars : List Int} {key : Int} {n : Nat} : grpTo s l vars key n ≠ [] ↔ key ∈ keysL s l vars n := by
  rw [← List.length_pos_iff]
  simp only [grpTo, List.length_map, keysL, List.mem_map, List.mem_range]
  rw [List.length_pos_iff_exists_mem]
  simp only [List.mem_filter, List.mem_range, decide_eq_true_eq]
theorem mem_fstKeys {s : List Vr} {l : List Pe} {vars : List Int} {key : Int} : ∀ {n : Nat}, key ∈ fstKeys s l vars n ↔ key ∈ keysL s l vars n
  | 0 => by simp [fstKeys, keysL]
  | n + 1 => by
    rw [keysL_succ, List.mem_append, List.mem_singleton, fstKeys]
    split
    · rw [List.mem_append, List.mem_singleton, mem_fstKeys (n := n)]
    · rename_i h
      rw [mem_fstKeys (n := n)]
      constructor
      · exact .inl
      · rintro (h1 | h1)
        · exact h1
        · rw [h1]; exact mem_grpTo.1 h
theorem nodup_fstKeys (s : List Vr) (l : List Pe) (vars : List Int) : ∀ n, (fstKeys s l vars n).Nodup
  | 0 => by simp [fstKeys]
  | n + 1 => by
    rw [fstKeys]
    split
    · rename_i h
      rw [List.nodup_append]
      refine ⟨nodup_fstKeys s l vars n, by simp, fun a ha b hb e => ?_⟩
      rw [List.mem_singleton] at hb
      subst hb; subst e
      exact (mem_grpTo.2 (mem_fstKeys.1 ha)) h
    · exact nodup_fstKeys s l vars n
theorem fstKeys_len (s : List Vr) (l : List Pe) (vars : List Int) : ∀ n, (fstKeys s l vars n).length ≤ n
  | 0 => by simp [fstKeys]
  | n + 1 => by
    have := fstKeys_len s l vars n
    rw [fstKeys]
    split <;> simp <;> omega
theorem incr_eq : ∀ {xs ys : List Int}, Incr xs → Incr ys → (∀ x, x ∈ xs ↔ x ∈ ys) → xs = ys := fun {xs ys} h1 h2 h => by
  have hp : xs.Perm ys := (List.perm_ext_iff_of_nodup (h1.imp (fun h => by omega)) (h2.imp (fun h => by omega))).2 h
  exact eq_of_perm_pairwise (r := (· < ·)) (fun a b h1 h2 => by omega) hp h1 h2
theorem sortI_keys (s : List Vr) (l : List Pe) (vars : List Int) : sortI (fstKeys s l vars l.length) = keysS s l vars := by
  apply incr_eq
  · have h1 := sortI_sorted (fstKeys s l vars l.length)
    have h2 : (sortI (fstKeys s l vars l.length)).Nodup := (sortI_perm _).nodup_iff.2 (nodup_fstKeys s l vars l.length)
    exact (h1.and h2).imp (fun {a b} h => by have := h.1; have := h.2; omega)
  · exact incr_putL _
  · intro x
    rw [mem_sortI, mem_fstKeys, keysS, mem_putL]
end Go.Proofs.Ytkkoidoinbiikaa
