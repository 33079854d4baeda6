/- Readings of slices of bytes. -/
import Derived.Test.YtmhofeljieicaaaOpen
import Derived.Test.YtmhofeljieicaaaDrwI
namespace Go.Proofs.Ytmhofeljieicaaa
open Go.ChangeShapes Go.WideShapes Go.ChangeAt Go.RowKit Go.Deep Go.Joins

theorem wf_u8 {n : Int} (h : (Lit.int .u8 n).wf = true) : 0 ≤ n ∧ n ≤ 255 := by
  simpa [Lit.wf, IntKind.min, IntKind.max, IntKind.signed, IntKind.bits] using h
theorem bytes_read {H : Type} {enc : TypeId × Value → H} {P : Program} {w : World} {base : Nat} {held : Bool} {t e : TypeId} {fuel : Nat} {c : Value} {x : DataW H × List MemPlace} (ht : P.underlying t = some (.slice e)) (he : P.underlying e = some (.int .u8)) (hc : P.cellsOf e = 1)
    (h : DataW.trod enc P w base (fun _ => true) held fuel t [c] = some x) : ∃ xs, Bytes w c xs ∧ WfB xs := by
  rcases open_ints ht he hc h with ⟨hcs, _⟩ | ⟨a, len, cap, zs, hcs, _, hl, hm, hz, _, hcell, hwz⟩
  · simp at hcs; subst hcs
    exact ⟨[], ⟨none, 0, rfl, Nat.le_refl _, by omega, fun k hk => by simp at hk⟩, fun x hx => by simp at hx⟩
  · simp at hcs; subst hcs
    simp only [if_true] at hz
    have hlen : (zs.take len).length = len := by simp; omega
    refine ⟨zs.take len, ⟨some a, cap, by rw [hlen], by omega, by simpa [maxLen] using hm, fun k hk => ?_⟩, fun n hn => wf_u8 (hwz n (List.mem_of_mem_take hn))⟩
    have hk' : k < len := by omega
    have hcl := hcell k (by omega)
    have h0 := hcell 0 (by omega)
    have ha := spot_none0 h0
    refine ⟨a.block, a.off, by rw [← ha], ?_⟩
    rw [← spot_none hcl, hcl]
    simp [ix, List.getD, hk']
end Go.Proofs.Ytmhofeljieicaaa
