/- The drawing cursor l1Cur: next, pick, among. -/
import Derived.Test.YtmhofeljieicaaaExpS
namespace Go.Proofs.Ytmhofeljieicaaa
open Go.RowKit

def BytesA (w : World) (ao : Option Addr) (xs : List Int) : Prop :=
  ∀ k, k < xs.length → ∃ b o, ao = some ⟨b, o, none⟩ ∧ w.cell? ⟨b, o + k, none⟩ = some (.int .u8 (ix xs k))
def Bytes (w : World) (v : Value) (xs : List Int) : Prop :=
  ∃ ao cap, v = .slice ao xs.length cap ∧ xs.length ≤ cap ∧ cap ≤ 9223372036854775807 ∧ BytesA w ao xs
def WfB (xs : List Int) : Prop := ∀ x ∈ xs, 0 ≤ x ∧ x ≤ 255
theorem BytesA.ext {w w' : World} {ao : Option Addr} {xs : List Int} (h : BytesA w ao xs) (u : Ext w w') : BytesA w' ao xs := by
  intro k hk
  obtain ⟨b, o, rfl, hc⟩ := h k hk
  exact ⟨b, o, rfl, u.cell hc⟩
theorem Bytes.ext {w w' : World} {v : Value} {xs : List Int} (h : Bytes w v xs) (u : Ext w w') : Bytes w' v xs := by
  obtain ⟨ao, cap, rfl, h1, h2, h3⟩ := h
  exact ⟨ao, cap, rfl, h1, h2, h3.ext u⟩
/-- a cursor at block B of w over bytes that stand in w0 below B -/
def Cur (lo B : Nat) (w : World) : Prop := ∃ (ao : Option Addr) (cap : Nat) (xs : List Int) (at' seed : Int) (w0 : World),
  xs.length ≤ cap ∧ cap ≤ 9223372036854775807 ∧ BytesA w0 ao xs ∧ WfB xs ∧ xs.length ≤ 9223372036854775807 ∧ w0.heap.size ≤ B ∧ Upd (fun z => z = B) w0 w ∧ 0 ≤ at' ∧ at' ≤ lo ∧
  Box w B 42 #[.slice ao xs.length cap, .int .i64 at', .int .u64 seed]
theorem Cur.mono {lo hi B : Nat} {w : World} (h : Cur lo B w) (hl : lo ≤ hi) : Cur hi B w := by
  obtain ⟨ao, cap, xs, a, s, w0, h1, h2, h3, h4, h5, h6, h7, h8, h9, h10⟩ := h
  exact ⟨ao, cap, xs, a, s, w0, h1, h2, h3, h4, h5, h6, h7, h8, by omega, h10⟩
theorem Cur.ext {lo B : Nat} {w w' : World} (h : Cur lo B w) (u : Ext w w') : Cur lo B w' := by
  obtain ⟨ao, cap, xs, a, s, w0, h1, h2, h3, h4, h5, h6, h7, h8, h9, h10⟩ := h
  exact ⟨ao, cap, xs, a, s, w0, h1, h2, h3, h4, h5, h6, h7.trans (u.upd (S := fun z => z = B)), h8, h9, h10.ext u⟩

theorem and255 (x : Int) : 0 ≤ wrap64 (bits .and .u64 x 255) ∧ wrap64 (bits .and .u64 x 255) ≤ 255 := by
  have h : bits .and .u64 x 255 = IntKind.u64.wrap ((BitVec.ofInt 64 x &&& BitVec.ofInt 64 255).toNat : Int) := rfl
  have h2 : (BitVec.ofInt 64 x &&& BitVec.ofInt 64 255).toNat ≤ 255 := by
    rw [BitVec.toNat_and]
    exact Nat.and_le_right
  rw [h, IntKind.wrap_u64]
  unfold wrap64
  omega
set_option maxHeartbeats 1600000 in
theorem next_c (lo B : Nat) (w : World) (h : Cur lo B w) (hlo : lo ≤ 1000000) :
    Calls Try.prog 39 #[.pointer (some ⟨B, 0, none⟩)] w fun e w' => (∃ x : Int, e = .returned (.int .i64 x) ∧ 0 ≤ x ∧ x ≤ 255) ∧ Cur (lo + 1) B w' ∧ Upd (fun z => z = B) w w' := by
  obtain ⟨ao, cap, xs, a, s, w0, h1, h2, h3, h4, h5, h6, h7, h8, h9, hb⟩ := h
  have c0 : w.cell? ⟨B, 0, none⟩ = some (.slice ao xs.length cap) := hb.cell 0 (by simp)
  have c1 : w.cell? ⟨B, 1, none⟩ = some (.int .i64 a) := hb.cell 1 (by simp)
  have c2 : w.cell? ⟨B, 2, none⟩ = some (.int .u64 s) := hb.cell 2 (by simp)
  have f1 := hb.free 1
  have f2 := hb.free 2
  have hw1 : IntKind.i64.wrap (a + 1) = a + 1 := IntWalk.i64_in _ (by omega)
  by_cases ha : a < xs.length
  · obtain ⟨A, rfl⟩ : ∃ A : Nat, a = A := ⟨a.toNat, by omega⟩
    have hA : A < xs.length := by omega
    obtain ⟨bb, o, rfl, hc⟩ := h3 A hA
    have hx : 0 ≤ ix xs A ∧ ix xs A ≤ 255 := by
      unfold ix
      rw [List.getD_eq_getElem?_getD, List.getElem?_eq_getElem hA]
      exact h4 _ (List.getElem_mem hA)
    have hbb : bb < w0.heap.size := World.block_lt_of_cell? _ _ hc
    have hc' := h7.cell hc (by show ¬ bb = B; omega)
    obtain ⟨X, hX⟩ : ∃ X, ix xs A = X := ⟨_, rfl⟩
    rw [hX] at hc hc' hx
    have hq1 : (↑A < (↑xs.length : Int)) := ha
    have hq2 : (↑A + 1 ≤ (↑xs.length : Int)) := by omega
    go_enter Try.func39, Try.ntmps39
    go_wp2
    go_quiet (fail)
    revert nq
    intro n1
    go_wp2
    go_quiet (fail)
    revert nq
    intro n2
    go_wp2
    have hb1 := ((hb.drewN (n1 + n2)).set 1 (.int .i64 ((A : Int) + 1))).set 2 (.int .u64 (IntKind.u64.wrap (IntKind.u64.wrap (IntKind.u64.wrap (s * 6364136223846793005) + X) + 1442695040888963407)))
    have u1 := (((Upd.refl (S := fun z => z = B) w).drewN (n1 + n2)).setCell (a := ⟨B, 1, none⟩) (.int .i64 ((A : Int) + 1)) (fun _ => rfl)).setCell (a := ⟨B, 2, none⟩) (.int .u64 (IntKind.u64.wrap (IntKind.u64.wrap (IntKind.u64.wrap (s * 6364136223846793005) + X) + 1442695040888963407))) (fun _ => rfl)
    generalize ((w.drewN (n1 + n2)).setCell ⟨B, 1, none⟩ (.int .i64 ((A : Int) + 1))).setCell ⟨B, 2, none⟩ (.int .u64 (IntKind.u64.wrap (IntKind.u64.wrap (IntKind.u64.wrap (s * 6364136223846793005) + X) + 1442695040888963407))) = wv at hb1 u1 ⊢
    simp only [List.setIfInBounds_toArray, List.set] at hb1
    have d0 : wv.cell? ⟨B, 0, none⟩ = some (.slice (some ⟨bb, o, none⟩) xs.length cap) := hb1.cell 0 (by simp)
    have d1 : wv.cell? ⟨B, 1, none⟩ = some (.int .i64 ((A : Int) + 1)) := hb1.cell 1 (by simp)
    go_quiet (fail)
    go_wp2
    go_ret
    refine ⟨⟨X, rfl, hx.1, hx.2⟩, ?_, u1.drewN _⟩
    exact ⟨_, cap, xs, (A : Int) + 1, _, w0, h1, h2, h3, h4, h5, h6, h7.trans (u1.drewN _), by omega, by omega, hb1⟩
  · have hq1 : decide (a < (↑xs.length : Int)) = false := by simpa using ha
    have hq2 : decide (a + 1 ≤ (↑xs.length : Int)) = false := decide_eq_false (by omega)
    go_enter Try.func39, Try.ntmps39
    go_wp2
    go_quiet (fail)
    revert nq
    intro n1
    go_wp2
    have hb1 := ((hb.drewN n1).set 1 (.int .i64 (a + 1))).set 2 (.int .u64 (IntKind.u64.wrap (IntKind.u64.wrap (IntKind.u64.wrap (s * 6364136223846793005)) + 1442695040888963407)))
    have u1 := (((Upd.refl (S := fun z => z = B) w).drewN n1).setCell (a := ⟨B, 1, none⟩) (.int .i64 (a + 1)) (fun _ => rfl)).setCell (a := ⟨B, 2, none⟩) (.int .u64 (IntKind.u64.wrap (IntKind.u64.wrap (IntKind.u64.wrap (s * 6364136223846793005)) + 1442695040888963407))) (fun _ => rfl)
    generalize ((w.drewN n1).setCell ⟨B, 1, none⟩ (.int .i64 (a + 1))).setCell ⟨B, 2, none⟩ (.int .u64 (IntKind.u64.wrap (IntKind.u64.wrap (IntKind.u64.wrap (s * 6364136223846793005)) + 1442695040888963407))) = wv at hb1 u1 ⊢
    simp only [List.setIfInBounds_toArray, List.set] at hb1
    obtain ⟨sd, hsd⟩ : ∃ sd, (IntKind.u64.wrap (IntKind.u64.wrap (IntKind.u64.wrap (s * 6364136223846793005)) + 1442695040888963407)) = sd := ⟨_, rfl⟩
    rw [hsd] at hb1
    clear hsd
    have d0 : wv.cell? ⟨B, 0, none⟩ = some (.slice ao xs.length cap) := hb1.cell 0 (by simp)
    have d1 : wv.cell? ⟨B, 1, none⟩ = some (.int .i64 (a + 1)) := hb1.cell 1 (by simp)
    have d2 : wv.cell? ⟨B, 2, none⟩ = some (.int .u64 sd) := hb1.cell 2 (by simp)
    go_quiet (fail)
    go_wp2
    go_ret
    refine ⟨⟨wrap64 (bits .and .u64 (sd / 1099511627776) 255), rfl, (and255 _).1, (and255 _).2⟩, ?_, u1.drewN _⟩
    exact ⟨_, cap, xs, a + 1, _, w0, h1, h2, h3, h4, h5, h6, h7.trans (u1.drewN _), by omega, by omega, hb1⟩
end Go.Proofs.Ytmhofeljieicaaa
