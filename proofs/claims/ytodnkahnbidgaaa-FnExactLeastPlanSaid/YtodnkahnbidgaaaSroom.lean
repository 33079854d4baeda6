/- A filling that the spec's functions hold in memory, and what is left between two nodes: room. -/
import Derived.Test.YtodnkahnbidgaaaMbfs
namespace Go.Proofs.Ytodnkahnbidgaaa
open Go.RowKit
open Fm

/-- where a filling's slices lie -/
structure FV where
  a0 : Option Addr
  c0 : Nat
  a1 : Option Addr
  c1 : Nat
  a2 : Option Addr
  c2 : Nat
  a3 : Option Addr
  c3 : Nat
  ax : Option Addr
  cx : Nat
  ar : Option Addr
  cr : Nat
  ac : Option Addr
  cc : Nat
  rvs : List Value
/-- the filling X of T, with rs and cs left, at fb; u: the world in which T was read -/
structure FillS (lo fb mid hi : Nat) (u w : World) (F : FV) (T : Tr) (X : List (List Int)) (rs cs : List Int) : Prop where
  box : Box w fb 94 #[.slice F.a0 T.rows.length F.c0, .slice F.a1 T.cols.length F.c1, .slice F.a2 T.rows.length F.c2, .slice F.a3 T.rows.length F.c3, .slice F.ax T.rows.length F.cx, .slice F.ar T.rows.length F.cr, .slice F.ac T.cols.length F.cc]
  gl : GridA u F.a2 T.lo
  gh : GridA u F.a3 T.hi
  ext : Ext u w
  gx : OwnGA lo fb w F.ax F.rvs X
  gr : OwnA (fb + 1) mid w F.ar rs
  gc : OwnA mid hi w F.ac cs
  low : u.heap.size ≤ lo ∧ lo ≤ fb ∧ fb + 1 ≤ mid ∧ mid ≤ hi ∧ hi ≤ w.heap.size
  cap : T.rows.length ≤ F.cx ∧ F.cx ≤ 9223372036854775807 ∧ T.rows.length ≤ F.cr ∧ F.cr ≤ 9223372036854775807 ∧ T.cols.length ≤ F.cc ∧ F.cc ≤ 9223372036854775807 ∧ T.rows.length ≤ F.c2 ∧ F.c2 ≤ 9223372036854775807 ∧ T.rows.length ≤ F.c3 ∧ F.c3 ≤ 9223372036854775807
namespace FillS
variable {lo fb mid hi : Nat} {u w w' : World} {F : FV} {T : Tr} {X : List (List Int)} {rs cs : List Int}
theorem carry (h : FillS lo fb mid hi u w F T X rs cs) (e : Ext w w') : FillS lo fb mid hi u w' F T X rs cs :=
  ⟨h.box.ext e, h.gl, h.gh, h.ext.trans e, h.gx.ext e, h.gr.ext e, h.gc.ext e, ⟨h.low.1, h.low.2.1, h.low.2.2.1, h.low.2.2.2.1, by have := h.low.2.2.2.2; have := e.size; omega⟩, h.cap⟩
end FillS

set_option maxHeartbeats 3200000 in
theorem room_c (lo fb mid hi : Nat) (u0 w : World) (F : FV) (T : Tr) (X : List (List Int)) (rs cs : List Int) (u v : Nat) (h : FillS lo fb mid hi u0 w F T X rs cs) (ho : TrOk T) (hs : SFill T X rs cs)
    (hu : u < T.rows.length + T.cols.length) (hv : v < T.rows.length + T.cols.length) :
    Calls Try.prog 121 #[.pointer (some ⟨fb, 0, none⟩), .int .i64 u, .int .i64 v] w fun e w' => e = .returned (.int .i64 (roomT T X u v)) ∧ Drew w w' := by
  have HF := Lib.hid h; clear h
  have HO := Lib.hid ho; clear ho
  have HS := Lib.hid hs; clear hs
  have b0 := HF.out.box
  have k5 := b0.cell 5 (by simp)
  have hd := HO.out.dims
  have d2 := hd.2.1
  have d4 := hd.2.2.2.1
  clear hd
  obtain ⟨n, hn⟩ : ∃ n, T.rows.length = n := ⟨_, rfl⟩
  obtain ⟨m, hm⟩ : ∃ m, T.cols.length = m := ⟨_, rfl⟩
  have k3 := b0.cell 3 (by simp)
  have k4 := b0.cell 4 (by simp)
  have k2 := b0.cell 2 (by simp)
  rw [hn] at k5 k3 k4 k2
  by_cases h1 : u < n
  · by_cases h2 : v < n
    · have HR := Lib.hid (room_rr (T := T) (X := X) (by rw [hn]; exact h1) (by rw [hn]; exact h2))
      clear hn hm
      go_enter Try.func121, Try.ntmps121
      go_wp2
      go_ret
      exact ⟨ret_int HR.out.symm, Drew.refl _⟩
    · obtain ⟨j, hj⟩ : ∃ j, v = n + j := ⟨v - n, by omega⟩
      have hjm : j < m := by omega
      have e1 : (v : Int) - (n : Int) = (j : Int) := by omega
      have un : u < T.rows.length := by rw [hn]; exact h1
      have jm : j < T.cols.length := by rw [hm]; exact hjm
      have HR := Lib.hid (show roomT T X u v = elOf T.hi u j - elOf X u j by rw [hj, ← hn]; exact room_rc un)
      have hbd := HS.out.hi u j un jm
      have hbl := HS.out.lo u j un jm
      have hce := HO.out.el un jm
      obtain ⟨bh, oh, ah, ch, eh, hch, h1_, h2_, h3_⟩ := (HF.out.gh.ext HF.out.ext).at_ (k := u) (by rw [HO.out.rcHi.len]; exact un)
      obtain ⟨b7, o7, e7, hx7⟩ := h3_ j (by rw [HO.out.rcHi.row u un]; exact jm)
      rw [HO.out.rcHi.row u un, hm] at hch h1_
      obtain ⟨bx, ox, axx, cxx, ex, hcx, x1_, x2_, x3_⟩ := HF.out.gx.grid.at_ (k := u) (by rw [HS.out.rc.len]; exact un)
      obtain ⟨b6, o6, e6, hx6⟩ := x3_ j (by rw [HS.out.rc.row u un]; exact jm)
      rw [HS.out.rc.row u un, hm] at hcx x1_
      have q7 : ix (rowAt T.hi u) j = elOf T.hi u j := rfl
      have q6 : ix (rowAt X u) j = elOf X u j := rfl
      rw [q7] at hx7
      rw [q6] at hx6
      rw [eh] at k3
      rw [ex] at k4
      subst e7 e6
      clear hn hm h3_ x3_ hj un jm q6 q7 eh ex
      go_enter Try.func121, Try.ntmps121
      go_wp2_with fail
      go_quiet (fail)
      go_wp2
      go_ret
      exact ⟨ret_int HR.out.symm, Drew.drewN (Drew.refl _) _⟩
  · obtain ⟨j, hj⟩ : ∃ j, u = n + j := ⟨u - n, by omega⟩
    have hjm : j < m := by omega
    by_cases h2 : v < n
    · have e1 : (u : Int) - (n : Int) = (j : Int) := by omega
      have vn : v < T.rows.length := by rw [hn]; exact h2
      have jm : j < T.cols.length := by rw [hm]; exact hjm
      have HR := Lib.hid (show roomT T X u v = elOf X v j - elOf T.lo v j by rw [hj, ← hn]; exact room_cr vn)
      have hbd := HS.out.hi v j vn jm
      have hbl := HS.out.lo v j vn jm
      have hce := HO.out.el vn jm
      obtain ⟨bh, oh, ah, ch, eh, hch, h1_, h2_, h3_⟩ := (HF.out.gl.ext HF.out.ext).at_ (k := v) (by rw [HO.out.rcLo.len]; exact vn)
      obtain ⟨b7, o7, e7, hx7⟩ := h3_ j (by rw [HO.out.rcLo.row v vn]; exact jm)
      rw [HO.out.rcLo.row v vn, hm] at hch h1_
      obtain ⟨bx, ox, axx, cxx, ex, hcx, x1_, x2_, x3_⟩ := HF.out.gx.grid.at_ (k := v) (by rw [HS.out.rc.len]; exact vn)
      obtain ⟨b6, o6, e6, hx6⟩ := x3_ j (by rw [HS.out.rc.row v vn]; exact jm)
      rw [HS.out.rc.row v vn, hm] at hcx x1_
      have q7 : ix (rowAt T.lo v) j = elOf T.lo v j := rfl
      have q6 : ix (rowAt X v) j = elOf X v j := rfl
      rw [q7] at hx7
      rw [q6] at hx6
      rw [eh] at k2
      rw [ex] at k4
      subst e7 e6
      clear hn hm h3_ x3_ hj vn jm q6 q7 eh ex
      go_enter Try.func121, Try.ntmps121
      go_wp2_with fail
      go_quiet (fail)
      go_wp2
      go_ret
      exact ⟨ret_int HR.out.symm, Drew.drewN (Drew.refl _) _⟩
    · have HR := Lib.hid (show roomT T X u v = 0 by
        obtain ⟨l, hl⟩ : ∃ l, v = n + l := ⟨v - n, by omega⟩
        rw [hj, hl, ← hn]; exact room_cc)
      clear hn hm hj
      go_enter Try.func121, Try.ntmps121
      go_wp2
      go_ret
      exact ⟨ret_int HR.out.symm, Drew.refl _⟩
end Go.Proofs.Ytodnkahnbidgaaa
