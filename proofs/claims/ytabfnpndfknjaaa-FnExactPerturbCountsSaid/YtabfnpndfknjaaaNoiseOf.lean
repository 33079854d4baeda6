/- Rows and elements of noise tables; NoiseOf; the laws on IsNoiseTable and NoiseOf. -/
import Derived.Test.YtabfnpndfknjaaaNoise
import Derived.Test.YtabfnpndfknjaaaCell
namespace Go.Proofs.Ytabfnpndfknjaaa
open Go.RowKit

/-- the row for a count -/
def ntIdx (xss : List (List Int)) (count : Int) : Nat := (min count ((xss.length : Int) - 1)).toNat
theorem ntIdx_lt {xss : List (List Int)} {count : Int} (h : ntOk xss) : ntIdx xss count < xss.length := by
  have := h.1; unfold ntIdx; omega
theorem ntIdx_imin {xss : List (List Int)} {count : Int} (h : ntOk xss) (hc : 0 ≤ count) : imin count ((xss.length : Int) - 1) = (ntIdx xss count : Int) := by
  have := h.1; unfold ntIdx imin; omega
theorem ntIdx_min {xss : List (List Int)} {count : Int} (h : ntOk xss) (hc : 0 ≤ count) : min count ((xss.length : Int) - 1) = (ntIdx xss count : Int) := by
  have := h.1; unfold ntIdx; omega
/-- the element for a count and a key -/
def ntEl (xss : List (List Int)) (count key : Int) : Int := ix (rowAt xss (ntIdx xss count)) (key / 4096).toNat

theorem l1Least_b (r a b : Int) (w : World) (hr : imin a b = r) : Calls Try.prog 56 #[.int .i64 a, .int .i64 b] w fun e w' => e = .returned (.int .i64 r) ∧ w' = w := by
  subst hr; exact l1Least_c a b w

set_option maxHeartbeats 400000 in
theorem yRow_c (v : Value) (xss : List (List Int)) (count : Int) (w : World) (h : Grid w v xss) (ho : ntOk xss) (hc : 0 ≤ count ∧ count ≤ 9223372036854775807) :
    Calls Try.prog 58 #[.agg #[v], .int .i64 count] w fun e w' => ∃ ar cr, e = .returned (.slice ar (rowAt xss (ntIdx xss count)).length cr) ∧ (rowAt xss (ntIdx xss count)).length ≤ cr ∧ cr ≤ 9223372036854775807 ∧ IntsA w' ar (rowAt xss (ntIdx xss count)) ∧ Ext w w' := by
  obtain ⟨ao, cap, rfl, h1, h2, h3⟩ := h
  have hk := ntIdx_lt (count := count) ho
  have hm := Lib.hid (ntIdx_imin ho hc.1)
  have u0 := (Ext.refl w).alloc (.cells #[.slice ao xss.length cap] 46)
  obtain ⟨b, o, ar, cr, rfl, hcl, r1, r2, r3⟩ := h3.at_ hk
  clear h3 ho
  have hcl' := Ext.cell u0 hcl
  have R3 := Lib.hid (r3.ext u0); clear r3
  have k0 : (0 : Int) ≤ (ntIdx xss count : Int) := by omega
  have k1 : (ntIdx xss count : Int) < (xss.length : Int) := by omega
  go_enter Try.func58, Try.ntmps58
  go_wp2_with fail
  go_quiet ((go_at_call 56; exact Calls.quiet_of_same (l1Least_b _ _ _ _ hm.out)))
  go_wp2
  go_ret
  exact ⟨ar, cr, rfl, r1, r2, R3.out, u0.drewN nq⟩

set_option maxHeartbeats 400000 in
theorem rowFor_c (v : Value) (xss : List (List Int)) (count : Int) (w : World) (h : Grid w v xss) (ho : ntOk xss) (hc : 0 ≤ count ∧ count ≤ 9223372036854775807) :
    Calls Try.prog 61 #[.agg #[v], .int .i64 count] w fun e w' => ∃ ar cr, e = .returned (.slice ar (rowAt xss (ntIdx xss count)).length cr) ∧ (rowAt xss (ntIdx xss count)).length ≤ cr ∧ cr ≤ 9223372036854775807 ∧ IntsA w' ar (rowAt xss (ntIdx xss count)) ∧ Ext w w' := by
  obtain ⟨ao, cap, rfl, h1, h2, h3⟩ := h
  have hn := ho.1
  clear ho
  have u0 := (Ext.refl w).alloc (.cells #[.slice ao xss.length cap] 46)
  obtain ⟨c, rfl⟩ := Int.eq_ofNat_of_zero_le hc.1
  by_cases hlt : (xss.length : Int) - 1 < (c : Int)
  · have he : ntIdx xss (c : Int) = xss.length - 1 := by unfold ntIdx; omega
    obtain ⟨b, o, ar, cr, rfl, hcl, r1, r2, r3⟩ := h3.at_ (k := xss.length - 1) (by omega)
    clear h3
    have hcl' := Ext.cell u0 hcl
    have R3 := Lib.hid (r3.ext u0); clear r3
    rw [he]
    clear he
    go_enter Try.func61, Try.ntmps61
    go_wp2
    go_ret
    exact ⟨ar, cr, rfl, r1, r2, R3.out, u0⟩
  · have he : ntIdx xss (c : Int) = c := by unfold ntIdx; omega
    obtain ⟨b, o, ar, cr, rfl, hcl, r1, r2, r3⟩ := h3.at_ (k := c) (by omega)
    clear h3
    have hcl' := Ext.cell u0 hcl
    have R3 := Lib.hid (r3.ext u0); clear r3
    rw [he]
    clear he
    go_enter Try.func61, Try.ntmps61
    go_wp2
    go_ret
    exact ⟨ar, cr, rfl, r1, r2, R3.out, u0⟩

set_option maxHeartbeats 400000 in
theorem yNoise_c (v : Value) (xss : List (List Int)) (count key : Int) (w : World) (h : Grid w v xss) (ho : ntOk xss) (hc : 0 ≤ count ∧ count ≤ 9223372036854775807) (hk : 0 ≤ key ∧ key ≤ 65535) :
    Calls Try.prog 78 #[.agg #[v], .int .i64 count, .int .i64 key] w fun e w' => e = .returned (.int .i64 (ntEl xss count key)) ∧ Ext w w' := by
  have H := Lib.hid h
  obtain ⟨ao, cap, rfl, h1, h2, h3⟩ := h
  clear h3
  obtain ⟨c, rfl⟩ := Int.eq_ofNat_of_zero_le hk.1
  have hl : (rowAt xss (ntIdx xss count)).length = 16 := (ho.2.2 _ (ntIdx_lt ho)).1
  have hk1 : c / 4096 < (rowAt xss (ntIdx xss count)).length := by omega
  have HO := Lib.hid ho; clear ho
  have HL := Lib.hid hl; clear hl
  have u0 := (Ext.refl w).alloc (.cells #[.slice ao xss.length cap] 46)
  go_enter Try.func78, Try.ntmps78
  go_wp2_with fail
  refine (yRow_c _ xss count _ (H.out.ext u0) HO.out hc).mono ?_
  rintro e w1 ⟨ar, cr, rfl, r1, r2, r3, u1⟩
  obtain ⟨b, o, rfl, hcl⟩ := r3 (c / 4096) hk1
  clear r3
  have he : ((c : Int) / 4096).toNat = c / 4096 := by omega
  have HE := Lib.hid he; clear he
  go_wp2
  go_ret
  exact ⟨ret_int (by rw [ntEl, HE.out]), u0.trans u1⟩

set_option maxHeartbeats 400000 in
theorem noiseOf_c (v : Value) (xss : List (List Int)) (count key : Int) (w : World) (h : Grid w v xss) (ho : ntOk xss) (hc : 0 ≤ count ∧ count ≤ 9223372036854775807) (hk : 0 ≤ key ∧ key ≤ 65535) :
    Calls Try.prog 68 #[.agg #[v], .int .i64 count, .int .i64 key] w fun e w' => e = .returned (.int .i64 (ntEl xss count key)) ∧ Ext w w' := by
  have H := Lib.hid h
  obtain ⟨ao, cap, rfl, h1, h2, h3⟩ := h
  clear h3
  obtain ⟨c, rfl⟩ := Int.eq_ofNat_of_zero_le hk.1
  have hl : (rowAt xss (ntIdx xss count)).length = 16 := (ho.2.2 _ (ntIdx_lt ho)).1
  have hk1 : c / 4096 < (rowAt xss (ntIdx xss count)).length := by omega
  have HO := Lib.hid ho; clear ho
  have HL := Lib.hid hl; clear hl
  have u0 := (Ext.refl w).alloc (.cells #[.slice ao xss.length cap] 46)
  go_enter Try.func68, Try.ntmps68
  go_wp2_with fail
  refine (rowFor_c _ xss count _ (H.out.ext u0) HO.out hc).mono ?_
  rintro e w1 ⟨ar, cr, rfl, r1, r2, r3, u1⟩
  obtain ⟨b, o, rfl, hcl⟩ := r3 (c / 4096) hk1
  clear r3
  have he : ((c : Int) / 4096).toNat = c / 4096 := by omega
  have HE := Lib.hid he; clear he
  go_wp2
  go_ret
  exact ⟨ret_int (by rw [ntEl, HE.out]), u0.trans u1⟩

/-- NoiseOf's two results -/
def noB (ok : Bool) (count key : Int) : Bool := ok && decide (0 ≤ count ∧ 0 ≤ key ∧ key ≤ 65535)
def noV (ok : Bool) (xss : List (List Int)) (count key : Int) : Int := if noB ok count key = true then ntEl xss count key else 0


end Go.Proofs.Ytabfnpndfknjaaa
