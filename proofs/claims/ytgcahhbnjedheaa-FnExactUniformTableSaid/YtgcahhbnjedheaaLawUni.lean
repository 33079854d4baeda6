/- The law on UniformTable. -/
import Derived.Test.YtgcahhbnjedheaaUniform
import Derived.Test.YtgcahhbnjedheaaNtLaw
namespace Go.Proofs.Ytgcahhbnjedheaa
open Go.RowKit

theorem uni_small {n : Nat} (h : n ≤ 6) : Small (uni n) := by
  have : ∀ m, m ≤ 6 → ((uni m).length + ((uni m).map List.length).sum ≤ 1048576) := by decide
  exact Small.of_bound (by have := this n h; omega)
theorem uniV_small (d : Int) : Small (uniV d) := by
  unfold uniV
  split
  · rename_i h
    have : 0 ≤ d ∧ d ≤ 5 := by simpa [uniB] using h
    exact uni_small (by omega)
  · exact uni_small (n := 0) (by omega)

set_option maxHeartbeats 1600000 in
theorem lawUniform_c (d : Int) (w : World) (_ : -9223372036854775808 ≤ d ∧ d ≤ 9223372036854775807) :
    Calls Try.prog 4 #[.int .i64 d] w fun e w' => e = .returned (.bool true) ∧ Ext w w' := by
  obtain ⟨B, hB⟩ : ∃ B, B = uniB d := ⟨_, rfl⟩
  obtain ⟨X, hX⟩ : ∃ X, X = uniV d := ⟨_, rfl⟩
  have hS : Small X := by rw [hX]; exact uniV_small d
  have HB := Lib.hid hB; clear hB
  have HX := Lib.hid hX; clear hX
  have HS := Lib.hid hS; clear hS
  have hq : (B != B) = false := by simp
  obtain ⟨p, hp⟩ : ∃ p, p = psum X X.length := ⟨_, rfl⟩
  have hp0 : 0 ≤ p := by rw [hp]; unfold psum; omega
  have hpn : ¬ (1 + p < 0) := by omega
  have hpq : (1 + p != 1 + p) = false := by simp
  have HP := Lib.hid hp; clear hp
  clear hp0
  go_enter Try.func4, Try.ntmps4
  go_wp2_with fail
  refine (specUniform_c d _).mono ?_
  rw [← HB.out, ← HX.out]
  rintro e w1 ⟨x1, r1, rfl, o1, u1⟩
  have O1 := Lib.hid o1
  obtain ⟨a1, cp1, rfl, q1, q2, q3⟩ := o1
  clear q3
  have b1 := Box.new w1 30 #[.slice a1 X.length cp1] rfl
  have u1' := (Ext.refl w1).alloc (.cells #[.slice a1 X.length cp1] 30)
  have v1 := u1.trans u1'
  go_wp2_with fail
  refine (implUniform_c d _).mono ?_
  rw [← HB.out, ← HX.out]
  rintro e w2 ⟨x2, r2, rfl, o2, u2⟩
  have O2 := Lib.hid o2
  obtain ⟨a2, cp2, rfl, q4, q5, q6⟩ := o2
  clear q6
  have b2 := Box.new w2 30 #[.slice a2 X.length cp2] rfl
  have u2' := (Ext.refl w2).alloc (.cells #[.slice a2 X.length cp2] 30)
  have v2 := u2.trans u2'
  have c21 := (b1.ext v2).cell 0 (by simp)
  have hsz1 := u1.size
  have hsz2 := u2.size
  simp at hsz2
  go_wp2_with fail
  refine (eqNoiseTable_b true _ _ X X _ (by simp) (O2.out.grid.ext u2') (O1.out.grid.ext (u1'.trans v2))).mono ?_
  rintro e w3 ⟨rfl, u3⟩
  have c31 := ((b1.ext v2).ext u3).cell 0 (by simp)
  have c32 := (b2.ext u3).cell 0 (by simp)
  have o3 := O2.out.ext (u2'.trans u3)
  have O3 := Lib.hid o3; clear o3
  go_wp2_with fail
  refine (markNoiseTable_c _ _ _ _ X 1 _ O3.out HS.out (by omega)).mono ?_
  rw [← HP.out]
  rintro e w4 ⟨rfl, ⟨ys, o4, m4⟩, u4⟩
  have O4 := Lib.hid o4; clear o4
  have M4 := Lib.hid m4; clear m4
  have hbk : ∀ b, rowBlks r2 X b → w1.heap.size + 1 ≤ b ∧ b < w2.heap.size := fun b hb => by
    have := O3.out.blks hb; simp at this; omega
  have HBK := Lib.hid hbk; clear hbk
  have U4 := Lib.hid u4; clear u4
  have e4 : Ext w w4 := ((v1.trans v2).trans u3).of_upd U4.out (fun b hb => by have := HBK.out b hb; omega)
  have b14 := ((b1.ext v2).ext u3).upd U4.out (fun hb => by have := HBK.out _ hb; omega)
  have b24 := (b2.ext u3).upd U4.out (fun hb => by have := HBK.out _ hb; omega)
  have c41 := b14.cell 0 (by simp)
  have c42 := b24.cell 0 (by simp)
  have o14 := (O1.out.ext ((u1'.trans v2).trans u3)).away U4.out (fun b hb => by have := HBK.out b hb; omega)
  have O14 := Lib.hid o14; clear o14
  have hyl : ys.length = X.length := M4.out.1
  go_wp2_with fail
  refine (heldNoiseTable_c _ X ys 1 _ O4.out.grid M4.out HS.out (by omega)).mono ?_
  rw [← HP.out]
  rintro e w5 ⟨rfl, u5⟩
  have c51 := (b14.ext u5).cell 0 (by simp)
  have c52 := (b24.ext u5).cell 0 (by simp)
  go_wp2_with fail
  refine (implUniform_c d _).mono ?_
  rw [← HB.out, ← HX.out]
  rintro e w6 ⟨x6, r6, rfl, o6, u6⟩
  have O6 := Lib.hid o6
  obtain ⟨a6, cp6, rfl, q7, q8, q9⟩ := o6
  clear q9
  have b6 := Box.new w6 30 #[.slice a6 X.length cp6] rfl
  have u6' := (Ext.refl w6).alloc (.cells #[.slice a6 X.length cp6] 30)
  have v6 := (u5.trans u6).trans u6'
  have c61 := (b14.ext v6).cell 0 (by simp)
  have c62 := (b24.ext v6).cell 0 (by simp)
  go_wp2_with fail
  refine (eqNoiseTable_b true _ _ X X _ (by simp) (O6.out.grid.ext u6') (O14.out.grid.ext v6)).mono ?_
  rintro e w7 ⟨rfl, u7⟩
  have c71 := ((b14.ext v6).ext u7).cell 0 (by simp)
  have c72 := ((b24.ext v6).ext u7).cell 0 (by simp)
  go_wp2_with fail
  refine (heldNoiseTable_c _ X ys 1 _ (O4.out.grid.ext (v6.trans u7)) M4.out HS.out (by omega)).mono ?_
  rw [← HP.out]
  rintro e w8 ⟨rfl, u8⟩
  go_wp2
  go_ret
  exact ⟨rfl, (e4.trans (v6.trans u7)).trans u8⟩
end Go.Proofs.Ytgcahhbnjedheaa
