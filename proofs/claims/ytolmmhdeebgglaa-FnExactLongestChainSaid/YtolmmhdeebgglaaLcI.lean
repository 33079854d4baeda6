/- The longest chain of tables of a plan: the program's LongestChain. -/
import Derived.Test.YtolmmhdeebgglaaLcG
import Derived.Test.YtolmmhdeebgglaaLcC
import Derived.Test.YtolmmhdeebgglaaEqual
import Derived.Laws.EntriesVeiled
namespace Go.Proofs.Ytolmmhdeebgglaa
open Go.RowKit

set_option maxHeartbeats 800000 in
theorem cloneNil_c (w : World) : Calls Try.prog 48 #[.slice none 0 0] w fun e w' => e = .returned (.slice none 0 0) ∧ w = w' := by
  have q22 : ∀ (w : World) (a : Option Addr) (n c : Nat), (binOp .eql 22 (.slice a n c) (.slice none 0 0)).run Try.prog w = .ok (.bool a.isNone) w := fun w a n c => Go.Lib.run_eql_slice_nil w _ _ a n c 0 0 Try.underlying22
  go_enter Try.func48, Try.ntmps48
  go_wp2
  go_ret
  exact ⟨rfl, rfl⟩
theorem topL_len {n : Nat} {lt : Nat → Nat → Bool} (hs : Strict n lt) (m : Nat) (hm : m ≤ n) : (topL n lt m).length ≤ n := by
  rcases (bst_spec (p := fun _ => true) (f := chn n lt) m).2 with h | ⟨k, hk, _, h, _⟩
  · unfold topL; rw [h]; simp
  · unfold topL; rw [h]; exact hgt_len hs (by omega)

set_option maxRecDepth 100000 in
set_option maxHeartbeats 6400000 in
theorem implChain_c (v1 : Value) (T : Ge) (v2 : Value) (s : List Vr) (v3 : Value) (l : List Ta) (w : World) (h1 : GeR w v1 T) (h2 : Vrs w v2 s) (h3 : Tabs w v3 l) (hw : WfV s) :
    Calls Try.prog 24 #[v1, v2, v3] w (RetInts (fun v' => .tuple #[v', .bool (planB T.par s l)]) w (lcV T.par s l)) := by
  have HW := Lib.hid hw; clear hw
  have R1 := Lib.hid h1
  have R2 := Lib.hid h2
  have R3 := Lib.hid h3
  obtain ⟨y1, rfl, i1⟩ := h1
  clear i1
  obtain ⟨a2, c2, rfl, _, _, g2⟩ := h2
  clear g2
  obtain ⟨SL, hSL⟩ : ∃ S, s.length = S := ⟨_, rfl⟩
  rw [hSL] at R2 ⊢
  clear hSL
  obtain ⟨a3, c3, rfl, e1, e2, g3⟩ := h3
  have u0 := (((Ext.refl w).alloc (.cells #[y1] 33)).alloc (.cells #[.slice a2 SL c2] 35)).alloc (.cells #[.slice a3 l.length c3] 37)
  have b1 := ((Box.new w 33 #[y1] rfl).alloc (.cells #[.slice a2 SL c2] 35)).alloc (.cells #[.slice a3 l.length c3] 37)
  have b2 := (Box.new (w.alloc (.cells #[y1] 33)) 35 #[.slice a2 SL c2] rfl).alloc (.cells #[.slice a3 l.length c3] 37)
  have b3 := Box.new ((w.alloc (.cells #[y1] 33)).alloc (.cells #[.slice a2 SL c2] 35)) 37 #[.slice a3 l.length c3] rfl
  simp only [World.size_alloc] at b2 b3
  have R1 := Lib.hid (R1.out.ext u0)
  have R2 := Lib.hid (R2.out.ext u0)
  have R3 := Lib.hid (R3.out.ext u0)
  have G3 := Lib.hid (TabsA.ext g3 u0); clear g3
  have c1 := b1.cell 0 (by simp)
  have c2' := b2.cell 0 (by simp)
  have c3' := b3.cell 0 (by simp)
  rcases ep : planB T.par s l with _ | _
  · have hV : lcV T.par s l = [] := by simp [lcV, ep]
    rw [hV]
    have HP := Lib.hid ep
    clear hV ep
    go_enter Try.func24, Try.ntmps24
    go_wp2_with fail
    refine (isPlan_b false _ _ _ T s l _ HP.out R1.out R2.out R3.out HW.out).mono ?_
    rintro e w1 ⟨rfl, u1⟩
    go_wp2
    go_ret2
    exact ⟨_, rfl, Own.nil, u0.trans u1⟩
  have hV : lcV T.par s l = topL l.length (ltL T.par s l) l.length := by simp [lcV, ep]
  rw [hV]
  have HP := Lib.hid ep
  have HPP := Lib.hid (planB_true.1 ep)
  have h20 := HPP.out.2.2.1
  clear hV ep
  have HST := Lib.hid (ltL_strict HPP.out)
  obtain ⟨n, hn⟩ : ∃ n, l.length = n := ⟨_, rfl⟩
  obtain ⟨LT, hLT⟩ : ∃ L, ltL T.par s l = L := ⟨_, rfl⟩
  rw [hn] at e1 h20 HST u0 b1 b2 b3 c1 c2' c3' R1 R2 R3 G3 ⊢
  rw [hLT] at HST ⊢
  have HLT := Lib.hid hLT; clear hLT
  have HN := Lib.hid hn; clear hn
  go_enter Try.func24, Try.ntmps24
  go_wp2_with fail
  refine (isPlan_b true _ _ _ T s l _ HP.out R1.out R2.out R3.out HW.out).mono ?_
  rintro e w1 ⟨rfl, u1⟩
  have b1 := b1.ext u1
  have b2 := b2.ext u1
  have b3 := b3.ext u1
  have uu := u0.trans u1
  have R1 := Lib.hid (R1.out.ext u1)
  have R2 := Lib.hid (R2.out.ext u1)
  have G3 := Lib.hid (TabsA.ext G3.out u1)
  have hsu := u1.size
  simp only [World.size_alloc] at hsu
  clear u0 u1 R3 c1 c2' c3'
  have c3' := b3.cell 0 (by simp)
  have hmk := run_make_row' (P := Try.prog) 30 22 (.slice none 0 0) 24 Try.underlying30 info_ints rfl .i64 .i64 n (by omega) (by omega)
  have hmf : ∀ (fn : Fn) (first cap : Array Value) (w : World), (Instr.makeFunc fn first cap).run Try.prog w = .ok (.func fn first cap) w := fun _ _ _ _ => rfl
  have e3 := (((Ext.refl w1).alloc (.cells (madeCells #[.slice none 0 0] n) 22)).alloc (.cells #[.slice (some ⟨w1.heap.size, 0, none⟩) n n] 30)).alloc (.cells #[.func (.func 47) #[] #[.pointer (some ⟨w1.heap.size + 1, 0, none⟩), .pointer (some ⟨w.heap.size + 1 + 1, 0, none⟩), .pointer (some ⟨w.heap.size, 0, none⟩), .pointer (some ⟨w.heap.size + 1, 0, none⟩), .pointer (some ⟨w1.heap.size + 1 + 1, 0, none⟩)]] 73)
  have hME : MemoOk n LT w1.heap.size (w1.heap.size + 3) (((w1.alloc (.cells (madeCells #[.slice none 0 0] n) 22)).alloc (.cells #[.slice (some ⟨w1.heap.size, 0, none⟩) n n] 30)).alloc (.cells #[.func (.func 47) #[] #[.pointer (some ⟨w1.heap.size + 1, 0, none⟩), .pointer (some ⟨w.heap.size + 1 + 1, 0, none⟩), .pointer (some ⟨w.heap.size, 0, none⟩), .pointer (some ⟨w.heap.size + 1, 0, none⟩), .pointer (some ⟨w1.heap.size + 1 + 1, 0, none⟩)]] 73)) :=
    MemoOk.ext (w := w1.alloc (.cells (madeCells #[.slice none 0 0] n) 22)) ⟨fun _ => .slice none 0 0, World.rowIs_made _ _ _ _, fun k hk => .inl rfl⟩ (((Ext.refl _).alloc _).alloc _)
  have hEN : ChEnv w1 n w1.heap.size (w1.heap.size + 3) (w1.heap.size + 1) (w.heap.size + 1 + 1) w.heap.size (w.heap.size + 1) (w1.heap.size + 1 + 1) (.slice a3 n c3) y1 (.slice a2 SL c2) (((w1.alloc (.cells (madeCells #[.slice none 0 0] n) 22)).alloc (.cells #[.slice (some ⟨w1.heap.size, 0, none⟩) n n] 30)).alloc (.cells #[.func (.func 47) #[] #[.pointer (some ⟨w1.heap.size + 1, 0, none⟩), .pointer (some ⟨w.heap.size + 1 + 1, 0, none⟩), .pointer (some ⟨w.heap.size, 0, none⟩), .pointer (some ⟨w.heap.size + 1, 0, none⟩), .pointer (some ⟨w1.heap.size + 1 + 1, 0, none⟩)]] 73)) :=
    ⟨e3, (Box.new (w1.alloc (.cells (madeCells #[.slice none 0 0] n) 22)) 30 _ (by simp)).alloc _, b3.ext e3, b1.ext e3, b2.ext e3, Box.new ((w1.alloc (.cells (madeCells #[.slice none 0 0] n) 22)).alloc (.cells #[.slice (some ⟨w1.heap.size, 0, none⟩) n n] 30)) 73 _ (by simp), Nat.le_refl _, by omega, by simp, by omega, by omega, by omega, by omega, by omega⟩
  have k3 := hEN.l.cell 0 (by simp)
  have HEN := Lib.hid hEN; clear hEN
  have HME := Lib.hid hME; clear hME
  have HE3 := Lib.hid e3; clear e3
  go_wp2_with fail
  clear k3 hmk hmf c3'
  obtain ⟨wL, hwL⟩ : ∃ wL, wL = (((w1.alloc (.cells (madeCells #[.slice none 0 0] n) 22)).alloc (.cells #[.slice (some ⟨w1.heap.size, 0, none⟩) n n] 30)).alloc (.cells #[.func (.func 47) #[] #[.pointer (some ⟨w1.heap.size + 1, 0, none⟩), .pointer (some ⟨w.heap.size + 1 + 1, 0, none⟩), .pointer (some ⟨w.heap.size, 0, none⟩), .pointer (some ⟨w.heap.size + 1, 0, none⟩), .pointer (some ⟨w1.heap.size + 1 + 1, 0, none⟩)]] 73)) := ⟨_, rfl⟩
  rw [← hwL] at HEN HME HE3 ⊢
  clear hwL b1 b2 b3
  go_loopw [10, 24] (fun b k wr => ∃ m : Nat, m ≤ n ∧ k = .int .i64 m ∧ (m = 0 → b = .slice none 0 0) ∧ Own (w1.heap.size + 3) wr.heap.size wr b (topL n LT m) ∧ MemoOk n LT w1.heap.size (w1.heap.size + 3) wr ∧ Upd (fun b => b = w1.heap.size) wL wr) (fun _ k _ => n - (intOf k).toNat)
  case atStart => exact ⟨0, Nat.zero_le _, rfl, fun _ => rfl, Own.nil, HME.out, Upd.refl _⟩
  case round =>
    clear HME
    obtain ⟨m, hm, rfl, hz, hob, hmo, hu⟩ := hrel
    obtain ⟨wi, rfl⟩ : ∃ wi : World, wi = wr := ⟨_, rfl⟩
    have hEi := HEN.out.upd hu
    have HU := Lib.hid hu; clear hu
    have HMI := Lib.hid hmo; clear hmo
    have HOB := Lib.hid hob
    have hbl := topL_len HST.out m hm
    obtain ⟨bo, bc, rfl, p1, p2, p3⟩ := hob
    clear p3
    have HZ : Hid (m = 0 → Value.slice bo (topL n LT m).length bc = .slice none 0 0) := Lib.hid hz
    clear hz
    have HEI := Lib.hid hEi
    have hsz := hEi.sz
    by_cases hlt : m < n
    · obtain ⟨LB, hLB⟩ : ∃ L, (topL n LT m).length = L := ⟨_, rfl⟩
      rw [hLB] at p1 hbl HOB HZ ⊢
      have HBS : Hid (topL n LT (m + 1) = if LB < (chn n LT m).length then chn n LT m else topL n LT m) := Lib.hid (by rw [← hLB]; unfold topL; simp [bst])
      clear hLB
      have kc := hEi.c.cell 0 (by simp)
      clear hEi
      go_wp2_with fail
      refine (chain_c T s l w1 n LT w1.heap.size (w1.heap.size + 3) (w1.heap.size + 1) (w.heap.size + 1 + 1) w.heap.size (w.heap.size + 1) (w1.heap.size + 1 + 1) y1 (.slice a2 SL c2) a3 c3 R1 R2 G3 HPP HST HLT HN h20 e1 e2 (n + 1) m _ hlt (by have := below_le n LT m; omega) HEI.out HMI.out).mono ?_
      rintro e w2 ⟨v', rfl, ho2, hm2, hu2⟩
      have HO2 := Lib.hid ho2
      have HM2 := Lib.hid hm2; clear hm2
      have hus3 := hu2.size
      have HU2 := Lib.hid hu2; clear hu2
      obtain ⟨co, cc, rfl, p21, p22, p23⟩ := ho2
      clear p23
      have hgl := hgt_len HST.out hlt
      have hgp := hgt_pos HST.out hlt
      unfold hgt at hgl hgp
      obtain ⟨H, hH⟩ : ∃ H, (chn n LT m).length = H := ⟨_, rfl⟩
      rw [hH] at p21 HBS hgl hgp ⊢
      have HH := Lib.hid hH; clear hH
      by_cases hlh : LB < H
      · go_wp2
        go_roundw
        case rel => exact ⟨m + 1, by omega, by go_num, fun h => by omega, by rw [HBS.out, if_pos hlh, ← HH.out]; exact HO2.out, HM2.out, HU.out.trans HU2.out⟩
        case measure => simp [intOf]; omega
      · have HOB2 := Lib.hid ((HOB.out.away HU2.out (fun b hb => .inl (by subst hb; omega))).mono (Nat.le_refl _) hus3)
        have hm0 : Hid (m ≠ 0) := Lib.hid (fun h => by
          have h2 := HZ.out h
          simp only [Value.slice.injEq] at h2
          omega)
        go_wp2
        go_roundw
        case rel => exact ⟨m + 1, by omega, by go_num, fun h => by omega, by rw [HBS.out, if_neg hlh]; exact HOB2.out, HM2.out, HU.out.trans HU2.out⟩
        case measure => simp [intOf]; omega
    · have HX := Lib.hid (uu.trans hEi.ext)
      clear hEi
      by_cases hn0 : n = 0
      · have hb := HZ.out (by omega)
        have HT0 : Hid (topL n LT n = []) := Lib.hid (by rw [hn0]; rfl)
        rw [hb]
        clear hn0 hb
        go_wp2_with fail
        refine (cloneNil_c _).mono ?_
        rintro e w2 ⟨rfl, rfl⟩
        go_wp2
        go_ret2
        exact ⟨_, rfl, by rw [HT0.out]; exact Own.nil, HX.out⟩
      · have hml : m = n := by omega
        have HOB2 : Hid (Ints wi (.slice bo (topL n LT m).length bc) (topL n LT n)) := Lib.hid (by
          have h := HOB.out.ints
          have e : topL n LT n = topL n LT m := by rw [hml]
          rw [e]; exact h)
        have hne : topL n LT n ≠ [] := by
          obtain ⟨i, hi, e, _, _⟩ := topL_is HST.out (by omega : 0 < n)
          rw [e, chn_eq HST.out hi]; simp
        have HNE := Lib.hid hne
        have hbn := topL_len HST.out n (Nat.le_refl _)
        clear hml hne hn0
        go_wp2_with fail
        refine (cloneI_c _ _ _ HOB2.out HNE.out (by omega)).mono ?_
        rintro e w2 ⟨v', rfl, ho, hx⟩
        have HO := Lib.hid ho; clear ho
        have HX2 := Lib.hid hx; clear hx
        have hsx := HX.out.size
        go_wp2
        go_ret2
        exact ⟨_, rfl, HO.out.mono hsx (Nat.le_refl _), HX.out.trans HX2.out⟩
theorem lcV_len (par : List Int) (s : List Vr) (l : List Ta) : (lcV par s l).length ≤ 1048576 := by
  unfold lcV
  split
  · next h =>
    have hp := planB_true.1 h
    have h1 := topL_len (ltL_strict hp) l.length (Nat.le_refl _)
    have h2 := hp.2.2.1
    omega
  · simp
end Go.Proofs.Ytolmmhdeebgglaa
