/- The law on IsExposedShare. -/
import Derived.Test.YtmfbbkackdmbpaaDomI
import Derived.Test.YtmfbbkackdmbpaaBase
namespace Go.Proofs.Ytmfbbkackdmbpaa
open Go.RowKit

set_option maxHeartbeats 3200000 in
theorem lawIsExposedShare_c (v0 : Value) (xs0 : List Int) (a1 : Int) (w : World) (h0 : Ints w v0 xs0) (_ : Wf xs0) (i1 : -9223372036854775808 ≤ a1 ∧ a1 ≤ 9223372036854775807) :
    Calls Try.prog 3 #[v0, .int .i64 a1] w fun e w' => e = .returned (.bool true) ∧ Ext w w' := by
  have H0 := Lib.hid h0
  obtain ⟨ao0, cap0, rfl, p0, q0, r0⟩ := h0
  clear r0
  have I1 := Lib.hid i1; clear i1
  have v0 := (Ext.refl w)
  by_cases hl0 : (1048576 : Int) < (xs0.length : Int)
  · go_enter Try.func3, Try.ntmps3
    go_wp2
    go_ret
    exact ⟨rfl, v0⟩
  have L0 := Lib.hid (show xs0.length ≤ 1048576 by omega)
  obtain ⟨V0, hV0⟩ : ∃ V, esV xs0 a1 = V := ⟨_, rfl⟩
  have HV0 := Lib.hid hV0; clear hV0
  have qv0 : (V0 != V0) = false := by simp
  obtain ⟨V1, hV1⟩ : ∃ V, esB xs0 a1 = V := ⟨_, rfl⟩
  have HV1 := Lib.hid hV1; clear hV1
  have qv1 : (V1 != V1) = false := by simp
  go_enter Try.func3, Try.ntmps3
  go_wp2_with fail
  refine (toIntS_c _ xs0 _ (H0.out.ext v0) L0.out).mono ?_
  rintro e w1 ⟨x1, rfl, o1, u1⟩
  have v1 := v0.trans u1
  have SZ1 := Lib.hid u1.size
  have O1 := Lib.hid o1
  clear o1
  have RS_1 := Lib.hid u1.size
  go_wp2_with fail
  refine (specIsExposedShare_c _ xs0 a1 _ O1.out.ints ).mono ?_
  rw [HV0.out]
  rw [HV1.out]
  rintro e w2 ⟨rfl, u2⟩
  have v2 := v1.trans u2
  have SZ2 := Lib.hid u2.size
  go_wp2_with fail
  refine (toIntS_c _ xs0 _ (H0.out.ext v2) L0.out).mono ?_
  rintro e w3 ⟨x3, rfl, o3, u3⟩
  have v3 := v2.trans u3
  have SZ3 := Lib.hid u3.size
  have O3 := Lib.hid o3
  clear o3
  have RS_3 := Lib.hid u3.size
  go_wp2_with fail
  refine (implIsExposedShare_c _ xs0 a1 _ O3.out.ints ).mono ?_
  rw [HV0.out]
  rw [HV1.out]
  rintro e w4 ⟨rfl, u4⟩
  have v4 := v3.trans u4
  have SZ4 := Lib.hid u4.size
  go_wp2_with fail
  refine (toIntS_c _ xs0 _ (H0.out.ext v4) L0.out).mono ?_
  rintro e w5 ⟨x5, rfl, o5, u5⟩
  have v5 := v4.trans u5
  have SZ5 := Lib.hid u5.size
  have O5 := Lib.hid o5
  clear o5
  have RS_5 := Lib.hid u5.size
  go_wp2_with fail
  refine (eqIntS_b true _ _ xs0 xs0 _ (by simp) ((O3.out.ext u4).ext u5).ints O5.out.ints).mono ?_
  rintro e w6 ⟨rfl, d6⟩
  have u6 := Drew.ext d6
  have v6 := v5.trans u6
  have SZ6 := Lib.hid u6.size
  go_wp2
  go_ret
  exact ⟨rfl, v6⟩
end Go.Proofs.Ytmfbbkackdmbpaa
