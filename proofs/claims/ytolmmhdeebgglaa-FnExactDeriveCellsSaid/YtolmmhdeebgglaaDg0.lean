/- gLevel and sPart hand back rows of their own; the class of worlds for a region's last store. -/
import Derived.Test.YtolmmhdeebgglaaDf
import Derived.Test.YtolmmhdeebgglaaHold
namespace Go.Proofs.Ytolmmhdeebgglaa
open Go.RowKit

theorem VRow.upd {S : Nat → Prop} {w w' : World} {lo : Nat} {v : Value} {s : List Vr} (h : VRow lo w v s) (u : Upd S w w') (hs : ∀ b, v.ownBlock = some b → ¬ S b) : VRow lo w' v s := ownsRow_upd h u hs
set_option maxHeartbeats 3200000 in
theorem gLevel_o (v : Value) (T : Ge) (lev : Int) (w : World) (h : GeR w v T) (hg : GeoP T.par) :
    Calls Try.prog 52 #[v, .int .i64 lev] w fun e w' => ∃ v' lo, e = .returned v' ∧ w.heap.size ≤ lo ∧ IRow lo w' v' (levL T.par lev) ∧ Ext w w' := by
  have HG := Lib.hid hg; clear hg
  have HR := Lib.hid h
  obtain ⟨v1, rfl, a1, c1, rfl, e1, e2, g1⟩ := h
  obtain ⟨n, hn⟩ : ∃ n, T.par.length = n := ⟨_, rfl⟩
  have hn3 := HG.out.1.2
  rw [hn] at e1 hn3 HR ⊢
  have HN := Lib.hid hn; clear hn g1
  have u0 := (Ext.refl w).alloc (.cells #[.slice a1 n c1] 33)
  have b0 := Box.new w 33 #[.slice a1 n c1] rfl
  have k0 := b0.cell 0 (by simp)
  have HR := Lib.hid (HR.out.ext u0)
  go_enter Try.func52, Try.ntmps52
  go_wp2_with fail
  obtain ⟨wq, hwq⟩ : ∃ wq, wq = w.alloc (.cells #[.slice a1 n c1] 33) := ⟨_, rfl⟩
  rw [← hwq] at u0 b0 HR ⊢
  clear hwq k0
  go_loopw [5, 10] (fun r i wr => ∃ k : Nat, k ≤ n ∧ i = .int .i64 k ∧ IRow wq.heap.size wr r (levTo T.par lev k) ∧ Ext wq wr) (fun _ i _ => n - (intOf i).toNat)
  case atStart => exact ⟨0, Nat.zero_le _, rfl, IRow.nil, Ext.refl _⟩
  case round =>
    obtain ⟨k, hk, rfl, hr, hx⟩ := hrel
    obtain ⟨wo, rfl⟩ : ∃ wo : World, wo = wr := ⟨_, rfl⟩
    have HI := Lib.hid hr; clear hr
    have bo := b0.ext hx
    have ko := bo.cell 0 (by simp)
    by_cases hlt : k < n
    · go_wp2_with fail
      refine (gDepth_c _ T k _ (HR.out.ext hx) HG.out (by rw [HN.out]; exact hlt)).mono ?_
      rintro e w1 ⟨rfl, u1⟩
      obtain ⟨d, hd⟩ : ∃ d, dep T.par k = d := ⟨_, rfl⟩
      rw [hd]
      have HD := Lib.hid hd; clear hd
      by_cases he : (d : Int) = lev
      · have HE : Hid (levTo T.par lev (k + 1) = levTo T.par lev k ++ [(k : Int)]) := Lib.hid (by simp only [levTo]; rw [if_pos (by rw [HD.out]; exact he)])
        have hown := HI.out.ext (u1.alloc (.cells #[.int .i64 k] 3))
        have HOWN := Lib.hid hown
        obtain ⟨L, hL⟩ : ∃ L, (levTo T.par lev k).length = L := ⟨_, rfl⟩
        have hL2 := levTo_len T.par lev k
        unfold IRow at hown
        rw [hL] at hown hL2
        have HOW2 := Lib.hid hown; clear hown
        have HL := Lib.hid hL; clear hL
        have hs := hx.size
        have hs1 := u1.size
        have hs0 := u0.size
        go_wp2_with (at_builtin; go_loud (refine app1 _ rfl _ _ 22 3 rfl (.int .i64 0) 8 Try.underlying22 info_int rfl wq.heap.size _ L _ rfl HOW2.out w1.heap.size 1 3 (.int .i64 k) rfl (Box.new _ _ _ rfl) rfl (by omega) (by omega) (by simp; omega) ?_))
        intro g cp w3 hown3 hgrow hat hlt3
        have HX3 := Lib.hid (HOWN.out.grew ((hx.trans u1).alloc _) (Nat.le_refl _) hgrow)
        have HO3 := Lib.hid hown3; clear hown3
        clear hgrow
        go_wp2
        go_roundw
        case rel => exact ⟨k + 1, by omega, by go_num, by rw [HE.out]; exact IRow.push (by rw [HL.out]; exact HO3.out), HX3.out⟩
        case measure => simp [intOf]; omega
      · have HE : Hid (levTo T.par lev (k + 1) = levTo T.par lev k) := Lib.hid (by simp only [levTo]; rw [if_neg (by rw [HD.out]; exact he)])
        have hq : ((d : Int) == lev) = false := by simp; exact he
        go_wp2
        go_roundw
        case rel => exact ⟨k + 1, by omega, by go_num, by rw [HE.out]; exact HI.out.ext u1, hx.trans u1⟩
        case measure => simp [intOf]; omega
    · have hkl : k = n := by omega
      subst hkl
      go_wp2
      go_ret
      refine ⟨_, wq.heap.size, rfl, u0.size, ?_, u0.trans hx⟩
      unfold levL
      rw [HN.out]
      exact HI.out

set_option maxHeartbeats 1600000 in
theorem sPart_o (v1 v2 : Value) (s : List Vr) (vars : List Int) (w : World) (h1 : Vrs w v1 s) (h2 : Ints w v2 vars) (hs : SchP s) (hr : Rising (s.length : Int) vars) :
    Calls Try.prog 53 #[v1, v2] w fun e w' => ∃ v', e = .returned v' ∧ VRow w.heap.size w' v' (partL s vars) ∧ Ext w w' := by
  obtain ⟨a1, c1, rfl, e1, e2, g1⟩ := h1
  obtain ⟨a2, c2, rfl, e3, e4, g2⟩ := h2
  have G1 := Lib.hid g1; clear g1
  have G2 := Lib.hid g2; clear g2
  have h6 := rising_six hs hr
  have HK := Lib.hid (And.intro hs hr); clear hs hr
  go_enter Try.func53, Try.ntmps53
  go_wp2
  go_loopw [5, 10] (fun r i wr => ∃ k : Nat, k ≤ vars.length ∧ i = .int .i64 k ∧ VRow w.heap.size wr r (partL s (vars.take k)) ∧ Ext w wr) (fun _ i _ => vars.length - (intOf i).toNat)
  case atStart => exact ⟨0, Nat.zero_le _, rfl, by simpa [partL] using VRow.nil, Ext.refl w⟩
  case round =>
    obtain ⟨k, hk, rfl, hr, hx⟩ := hrel
    obtain ⟨wo, rfl⟩ : ∃ wo : World, wo = wr := ⟨_, rfl⟩
    have HR := Lib.hid hr; clear hr
    by_cases hlt : k < vars.length
    · obtain ⟨b2, o2, rfl, hc⟩ := G2.out k hlt
      have hc' := Ext.cell hx hc
      obtain ⟨i, ei, hi1, hlv⟩ := rising_at HK.out.1 HK.out.2 hlt
      have HE : Hid ((ix vars k).toNat = i) := Lib.hid (by omega)
      rw [ei] at hc'
      obtain ⟨b1, o1, rfl, hd0, hd1⟩ := (G1.out.ext hx).at_ hi1
      have HPT := Lib.hid (partL_take (s := s) hlt)
      rw [HE.out] at HPT
      clear ei hc
      obtain ⟨nm, hnm⟩ : ∃ nm, (vrAt s i).name = nm := ⟨_, rfl⟩
      obtain ⟨lv, hlv'⟩ : ∃ lv, (vrAt s i).lev = lv := ⟨_, rfl⟩
      have HVE : Hid (vrAt s i = ⟨nm, lv⟩) := Lib.hid (by rw [← hnm, ← hlv'])
      rw [hnm] at hd0
      rw [hlv'] at hd1 hlv
      clear hnm hlv'
      have hlen : (partL s (vars.take k)).length = k := by simp [partL]; omega
      have hown := HR.out.ext ((Ext.refl wo).alloc (.cells #[.string nm, .int .i64 lv] 67))
      have HOWN := Lib.hid hown
      unfold VRow at hown
      rw [hlen] at hown
      have HOW2 := Lib.hid hown; clear hown
      have HLEN := Lib.hid hlen; clear hlen
      have hs := hx.size
      go_wp2_with (at_builtin; go_loud (refine appN _ rfl _ _ 35 67 rfl (.agg #[.string ByteArray.empty, .int .i64 0]) 2 24 Try.underlying35 info_variable rfl (by decide) w.heap.size _ k _ rfl HOW2.out wo.heap.size 1 67 [.string nm, .int .i64 lv] rfl (Box.new _ _ _ rfl) rfl (by simp [Value.oneCell']) (by omega) (by omega) (by simp; omega) ?_))
      intro g cp w3 hown3 hgrow hat hlt3
      have hx3 := HOWN.out.grew (hx.alloc _) (Nat.le_refl _) hgrow
      have HO3 := Lib.hid hown3; clear hown3
      have HX3 := Lib.hid hx3; clear hx3
      clear hgrow
      go_wp2
      go_roundw
      case rel => exact ⟨k + 1, by omega, by go_num, by rw [HPT.out, HVE.out]; exact VRow.push (by rw [HLEN.out]; exact HO3.out), HX3.out⟩
      case measure => simp [intOf]; omega
    · have hkl : vars.take k = vars := List.take_of_length_le (by omega)
      have HKL := Lib.hid hkl; clear hkl
      go_wp2
      go_ret
      refine ⟨_, rfl, ?_, hx⟩
      have := HR.out
      rwa [HKL.out] at this
end Go.Proofs.Ytolmmhdeebgglaa
