/- More along the path that ends in a column, the spec's: push. -/
import Derived.Test.YtodnkahnbidgaaaSroom
import Derived.Deep.LoopGhost
namespace Go.Proofs.Ytodnkahnbidgaaa
open Go.RowKit
open Fm

theorem OwnA.away {lo hi : Nat} {S : Nat → Prop} {w w' : World} {ao : Option Addr} {xs : List Int} (h : OwnA lo hi w ao xs) (u : Upd S w w') (hs : ∀ b, S b → b < lo ∨ hi ≤ b) : OwnA lo hi w' ao xs :=
  h.upd u (fun hx s => by have := hs _ s; have := h.range hx; omega)
theorem OwnA.put_away {lo hi : Nat} {w : World} {ao : Option Addr} {xs : List Int} (h : OwnA lo hi w ao xs) (a : Addr) (x : Value) (ha : a.block < lo ∨ hi ≤ a.block) : OwnA lo hi (w.setCell a x) ao xs :=
  h.away (S := fun b => b = a.block) ((Upd.refl w).setCell x (fun _ => rfl)) (fun b hb => by subst hb; exact ha)
namespace FillS
variable {lo fb mid hi : Nat} {u w w' : World} {F : FV} {T : Tr} {X X' : List (List Int)} {rs rs' cs cs' : List Int}
theorem putX (h : FillS lo fb mid hi u w F T X rs cs) {a : Addr} {x : Value} (ha : lo ≤ a.block ∧ a.block < fb) (g : OwnGA lo fb (w.setCell a x) F.ax F.rvs X') : FillS lo fb mid hi u (w.setCell a x) F T X' rs cs :=
  ⟨h.box.setOther (by omega) x, h.gl, h.gh, h.ext.setCell x (by have := h.low; omega), g, h.gr.put_away a x (by omega), h.gc.put_away a x (by have := h.low; omega), by simpa only [World.size_setCell] using h.low, h.cap⟩
theorem putR (h : FillS lo fb mid hi u w F T X rs cs) {a : Addr} {x : Value} (ha : fb + 1 ≤ a.block ∧ a.block < mid) (g : OwnA (fb + 1) mid (w.setCell a x) F.ar rs') : FillS lo fb mid hi u (w.setCell a x) F T X rs' cs :=
  ⟨h.box.setOther (by omega) x, h.gl, h.gh, h.ext.setCell x (by have := h.low; omega), h.gx.put_away a x (by omega), g, h.gc.put_away a x (by omega), by simpa only [World.size_setCell] using h.low, h.cap⟩
theorem putC (h : FillS lo fb mid hi u w F T X rs cs) {a : Addr} {x : Value} (ha : mid ≤ a.block ∧ a.block < hi) (g : OwnA mid hi (w.setCell a x) F.ac cs') : FillS lo fb mid hi u (w.setCell a x) F T X rs cs' :=
  ⟨h.box.setOther (by have := h.low; omega) x, h.gl, h.gh, h.ext.setCell x (by have := h.low; omega), h.gx.put_away a x (by have := h.low; omega), h.gr.put_away a x (by omega), g, by simpa only [World.size_setCell] using h.low, h.cap⟩
end FillS
theorem SFill.bounds {T : Tr} {X : List (List Int)} {rs cs : List Int} (h : SFill T X rs cs) (ho : TrOk T) {i j : Nat} (hi : i < T.rows.length) (hj : j < T.cols.length) : 0 ≤ ix rs i ∧ ix rs i ≤ 100000 ∧ 0 ≤ ix cs j ∧ ix cs j ≤ 100000 := by
  have h1 := h.row i hi
  have h2 := h.col j hj
  have h3 := ho.rowR hi
  have h4 := ho.colR hj
  have h5 : 0 ≤ S T.cols.length (elOf X i) := S_nonneg (fun j hj => by have := h.lo i j hi hj; have := ho.el hi hj; omega)
  have h6 : 0 ≤ S T.rows.length (fun i => elOf X i j) := S_nonneg (fun i hi => by have := h.lo i j hi hj; have := ho.el hi hj; omega)
  omega
theorem SFill.roomB {T : Tr} {X : List (List Int)} {rs cs : List Int} (h : SFill T X rs cs) (ho : TrOk T) {u v : Nat} (hu : u < T.rows.length + T.cols.length) (hv : v < T.rows.length + T.cols.length) : 0 ≤ roomT T X u v ∧ roomT T X u v ≤ 100000 := by
  refine ⟨h.room_nonneg hu hv, ?_⟩
  by_cases h1 : u < T.rows.length
  · by_cases h2 : v < T.rows.length
    · rw [room_rr h1 h2]; omega
    · obtain ⟨j, rfl⟩ : ∃ j, v = T.rows.length + j := ⟨v - T.rows.length, by omega⟩
      rw [room_rc h1]; have := h.lo u j h1 (by omega); have := ho.el h1 (j := j) (by omega); omega
  · obtain ⟨j, rfl⟩ : ∃ j, u = T.rows.length + j := ⟨u - T.rows.length, by omega⟩
    by_cases h2 : v < T.rows.length
    · rw [room_cr h2]; have := h.hi v j h2 (by omega); have := ho.el h2 (j := j) (by omega); omega
    · obtain ⟨l, rfl⟩ : ∃ l, v = T.rows.length + l := ⟨v - T.rows.length, by omega⟩
      rw [room_cc]; omega
/-- whence each node of the path was reached -/
def PathOk (T : Tr) (X : List (List Int)) (B : List Int) (s : Nat) (L : List Nat) : Prop :=
  ∀ w, w ∈ L → w < T.rows.length + T.cols.length ∧ bkOf B w < T.rows.length + T.cols.length ∧ 0 < roomT T X (bkOf B w) w ∧ w ≠ s ∧ ix B w = (bkOf B w : Int)

set_option maxRecDepth 100000 in
set_option maxHeartbeats 12800000 in
theorem spush_c (lo fb mid hi hi2 : Nat) (u0 w : World) (F : FV) (T : Tr) (X : List (List Int)) (rs cs : List Int) (aB : Option Addr) (cB : Nat) (B : List Int) (s e : Nat) (L : List Nat)
    (h : FillS lo fb mid hi u0 w F T X rs cs) (ho : TrOk T) (hs : SFill T X rs cs) (hB : OwnA hi hi2 w aB B) (hBl : B.length = T.rows.length + T.cols.length) (_hcB : B.length ≤ cB ∧ cB ≤ 9223372036854775807)
    (he : e < T.cols.length) (hsn : s < T.rows.length) (hsB : ix B s = -1) (hch : Chain (bkOf B) s (T.rows.length + e) L) (hnd : L.Nodup) (hpath : PathOk T X B s L) (hr : 0 < ix rs s) (hc : 0 < ix cs e) :
    Calls Try.prog 120 #[.pointer (some ⟨fb, 0, none⟩), .slice aB (T.rows.length + T.cols.length) cB, .int .i64 (T.rows.length + e : Nat)] w fun e w' => e = .returned (.tuple #[]) ∧ ∃ (X' : List (List Int)) (rs' cs' : List Int), FillS lo fb mid hi u0 w' F T X' rs' cs' ∧ SFill T X' rs' cs' ∧ rs'.sum < rs.sum ∧ Upd (fun b => lo ≤ b ∧ b < hi) w w' := by
  have HF := Lib.hid h; clear h
  have HO := Lib.hid ho; clear ho
  have HS := Lib.hid hs; clear hs
  have HB := Lib.hid hB; clear hB
  have HBL := Lib.hid hBl; clear hBl
  have HSB := Lib.hid hsB; clear hsB
  have HCH := Lib.hid hch; clear hch
  have HND := Lib.hid hnd; clear hnd
  have HPA := Lib.hid hpath; clear hpath
  have hd := HO.out.dims
  have d2 := hd.2.1
  have d4 := hd.2.2.2.1
  clear hd
  have hlow := HF.out.low
  have HCAP := Lib.hid HF.out.cap
  have b0 := HF.out.box
  obtain ⟨n, hn⟩ : ∃ n, T.rows.length = n := ⟨_, rfl⟩
  obtain ⟨m, hm⟩ : ∃ m, T.cols.length = m := ⟨_, rfl⟩
  have k4 := b0.cell 4 (by simp)
  have k5 := b0.cell 5 (by simp)
  have k6 := b0.cell 6 (by simp)
  have hbc := HS.out.bounds HO.out hsn he
  obtain ⟨bc, oc, ec, lc1, lc2, _, hcc, _⟩ := HF.out.gc.at_ (k := e) (by rw [HS.out.cl]; exact he)
  obtain ⟨br, or, er, lr1, lr2, _, hcr, _⟩ := HF.out.gr.at_ (k := s) (by rw [HS.out.rl]; exact hsn)
  rw [hn] at k5 k4 k6
  rw [hm] at k6
  rw [hn] at hsn d2 HCH HBL
  rw [hm] at he d4 HBL
  rw [ec] at k6
  rw [er] at k5
  rw [hn, hm]
  have e1 : ((n + e : Nat) : Int) - (n : Int) = (e : Int) := by omega
  obtain ⟨q, hq⟩ : ∃ q, n + e = q := ⟨_, rfl⟩
  rw [hq] at e1 HCH ⊢
  have hqN : q < n + m := by omega
  have HN := Lib.hid hn; clear hn
  have HM := Lib.hid hm; clear hm
  have HQ := Lib.hid hq; clear hq
  obtain ⟨RS, hRS⟩ : ∃ x, ix rs s = x := ⟨_, rfl⟩
  obtain ⟨CS, hCS⟩ : ∃ x, ix cs e = x := ⟨_, rfl⟩
  rw [hRS, hCS] at hbc
  rw [hRS] at hcr hr
  rw [hCS] at hcc hc
  have HRS := Lib.hid hRS; clear hRS
  have HCS := Lib.hid hCS; clear hCS
  have HEC := Lib.hid ec; clear ec
  have HER := Lib.hid er; clear er
  go_enter Try.func120, Try.ntmps120
  go_wp2
  go_loopg [7, 8] L.length (fun gk mo st wr => ∃ (c : Int) (u : Nat) (l1 l2 : List Nat), mo = .int .i64 c ∧ st = .int .i64 u ∧ L = l1 ++ l2 ∧ gk = l2.length ∧ Chain (bkOf B) s u l2 ∧ u < n + m ∧ 0 < c ∧ c ≤ CS ∧ (∀ w, w ∈ l1 → c ≤ roomT T X (bkOf B w) w) ∧ Drew w wr)
  case atStart => exact ⟨CS, q, [], L, rfl, rfl, rfl, rfl, HCH.out, hqN, hc, Int.le_refl _, fun w hw => by simp at hw, Drew.refl _⟩
  case round =>
    obtain ⟨c, u, l1, l2, rfl, rfl, hL, hgk, hch, huN, hc0, hcC, hle, hdr⟩ := hrel
    obtain ⟨wo, rfl⟩ : ∃ wo : World, wo = wr := ⟨_, rfl⟩
    have HLL := Lib.hid hL; clear hL
    have HGK := Lib.hid hgk; clear hgk
    have HCH2 := Lib.hid hch; clear hch
    have HLE := Lib.hid hle; clear hle
    obtain ⟨bb, ob, eb, lb1, lb2, _, hcb, _⟩ := HB.out.at_ (k := u) (by rw [HBL.out]; exact huN)
    subst eb
    have hcb2 := hdr.cell hcb
    by_cases hus : u = s
    · have hl2 := chain_end HCH2.out hus
      have HL1 : Hid (l1 = L) := Lib.hid (by rw [HLL.out, hl2, List.append_nil])
      subst hus
      rw [HSB.out] at hcb2
      have y5 := hdr.cell k5
      have z5 := hdr.cell hcr
      clear hl2 HGK HCH2 HLL hcb
      obtain ⟨M, hM⟩ : ∃ M, imin c RS = M := ⟨_, rfl⟩
      have hMc := imin_cases c RS
      rw [hM] at hMc
      have hMM : 0 < M ∧ M ≤ c ∧ M ≤ RS := by omega
      clear hMc
      have HMM := Lib.hid hM; clear hM
      go_wp2_with fail
      refine (l1Least_c _ _ _).mono ?_
      rw [HMM.out]
      rintro e9 wo ⟨rfl, rfl⟩
      have HF1 := Lib.hid (HF.out.carry hdr.ext)
      have HB1 := Lib.hid (HB.out.ext hdr.ext)
      have HU1 : Hid (Upd (fun b => lo ≤ b ∧ b < hi) w wo) := Lib.hid hdr.ext.upd
      clear hdr y5 z5 hcb2
      go_wp2
      go_loopg [9] L.length (fun gk v wr => ∃ (t : Nat) (l1' l2 : List Nat) (X' : List (List Int)), v = .int .i64 t ∧ L = l1' ++ l2 ∧ gk = l2.length ∧ Chain (bkOf B) u t l2 ∧ t < n + m ∧ FillS lo fb mid hi u0 wr F T X' rs cs ∧ OwnA hi hi2 wr (some ⟨bb, ob, none⟩) B ∧ Rc n m X' ∧ (∀ i j, i < n → j < m → elOf X' i j = elOf T.hi i j - along (bkOf B) M l1' (roomT T X) i (n + j)) ∧ Upd (fun b => lo ≤ b ∧ b < hi) w wr)
      case atStart =>
        refine ⟨q, [], L, X, rfl, rfl, rfl, HCH.out, hqN, HF1.out, HB1.out, by rw [← HN.out, ← HM.out]; exact HS.out.rc, fun i j hi hj => ?_, HU1.out⟩
        rw [along_nil, ← HN.out, room_rc (by rw [HN.out]; exact hi)]; omega
      case round =>
        obtain ⟨t, l1', l2, X', rfl, hL, hgk, hch, htN, hF, hBx, hRc, hel, hU⟩ := hrel
        obtain ⟨wi, rfl⟩ : ∃ wi : World, wi = wr := ⟨_, rfl⟩
        have HLL := Lib.hid hL; clear hL
        have HGK := Lib.hid hgk; clear hgk
        have HCH2 := Lib.hid hch; clear hch
        have HF2 := Lib.hid hF; clear hF
        have HB2 := Lib.hid hBx; clear hBx
        have HRC := Lib.hid hRc; clear hRc
        have HEL := Lib.hid hel; clear hel
        have HU := Lib.hid hU; clear hU
        have b2 := HF2.out.box
        have y4 := b2.cell 4 (by simp)
        have y5 := b2.cell 5 (by simp)
        have y6 := b2.cell 6 (by simp)
        rw [HN.out] at y4 y5 y6
        rw [HM.out] at y6
        obtain ⟨b9, o9, eb, _, _, _, hcb, _⟩ := HB2.out.at_ (k := t) (by rw [HBL.out]; exact htN)
        simp only [Option.some.injEq, Addr.mk.injEq, and_true] at eb
        obtain ⟨rfl, rfl⟩ := eb
        by_cases hts : t = u
        · have hl2 := chain_end HCH2.out hts
          have hl1 : l1' = L := by rw [HLL.out, hl2, List.append_nil]
          subst hts
          rw [HSB.out] at hcb
          have hfin := HS.out.push (s := t) (e := e) (c := M) (bk := bkOf B) (l := L) (by rw [HN.out]; exact hsn) (by rw [HM.out]; exact he) (by rw [HN.out, HQ.out]; exact HCH.out) HND.out (fun w hw => ⟨(HPA.out w hw).1, (HPA.out w hw).2.1⟩)
            (fun w hw => by have := HLE.out w (by rw [HL1.out]; exact hw); omega) (by omega) (by rw [HCS.out]; omega) (by rw [HRS.out]; omega) (X' := X') (by rw [HN.out, HM.out]; exact HRC.out) (fun i j hi hj => by
              have := HEL.out i j (by rw [← HN.out]; exact hi) (by rw [← HM.out]; exact hj)
              rw [this, hl1, HN.out])
          have hsum := HS.out.sumLess (s := t) (c := M) (by rw [HN.out]; exact hsn)
          rw [HRS.out] at hfin hsum
          rw [HCS.out] at hfin
          have HFIN := Lib.hid hfin; clear hfin
          have HSUM := Lib.hid hsum; clear hsum hl1 hl2
          obtain ⟨br2, or2, er2, lr1, lr2, ltr, hcr2, hfr2⟩ := HF2.out.gr.at_ (k := t) (by rw [HS.out.rl, HN.out]; exact hsn)
          have er3 := er2
          rw [HER.out] at er3
          simp only [Option.some.injEq, Addr.mk.injEq, and_true] at er3
          obtain ⟨rfl, rfl⟩ := er3
          have hst1 := HF2.out.gr
          rw [er2] at hst1
          have hst1 := hst1.set (k := t) (by rw [HS.out.rl, HN.out]; exact hsn) (RS - M)
          rw [← er2] at hst1
          have hf3 := HF2.out.putR (a := ⟨br, or + t, none⟩) ⟨lr1, lr2⟩ hst1
          rw [HRS.out] at hcr2
          rw [er2] at y5
          clear hst1
          have HF3 := Lib.hid hf3; clear hf3
          have b3 := HF3.out.box
          have z6 := b3.cell 6 (by simp)
          rw [HN.out, HM.out] at z6
          obtain ⟨bc2, oc2, ec2, lc1, lc2, ltc, hcc2, hfc2⟩ := HF3.out.gc.at_ (k := e) (by rw [HS.out.cl, HM.out]; exact he)
          have ec3 := ec2
          rw [HEC.out] at ec3
          simp only [Option.some.injEq, Addr.mk.injEq, and_true] at ec3
          obtain ⟨rfl, rfl⟩ := ec3
          have hst2 := HF3.out.gc
          rw [ec2] at hst2
          have hst2 := hst2.set (k := e) (by rw [HS.out.cl, HM.out]; exact he) (CS - M)
          rw [← ec2] at hst2
          have hf4 := HF3.out.putC (a := ⟨bc, oc + e, none⟩) ⟨lc1, lc2⟩ hst2
          rw [HCS.out] at hcc2
          rw [ec2] at z6
          clear hst2
          have HF4 := Lib.hid hf4; clear hf4
          have HU4 := Lib.hid ((HU.out.setCell (a := ⟨br, or + t, none⟩) (.int .i64 (RS - M)) (fun _ => by simp only; omega)).setCell (a := ⟨bc, oc + e, none⟩) (.int .i64 (CS - M)) (fun _ => by simp only; omega))
          clear er2 ec2
          go_wp2
          go_end0
          exact ⟨rfl, X', _, _, HF4.out, HFIN.out, by rw [HSUM.out]; omega, HU4.out⟩
        · obtain ⟨l2', hl2, hch'⟩ := chain_cons HCH2.out hts
          have htL : t ∈ L := by rw [HLL.out, hl2]; simp
          obtain ⟨g1, g2, g3, g4, g5⟩ := HPA.out t htL
          obtain ⟨p, hp⟩ : ∃ p, bkOf B t = p := ⟨_, rfl⟩
          rw [hp] at g2 g3 g5 hch'
          rw [HN.out, HM.out] at g2
          rw [g5] at hcb
          have hnot : t ∉ l1' := fun hm => by
            have h5 := HND.out
            rw [HLL.out, hl2, List.nodup_append] at h5
            exact h5.2.2 t hm t (by simp) rfl
          have HNOT := Lib.hid hnot; clear hnot
          have HHP := Lib.hid hp; clear hp g5
          have HCH' := Lib.hid hch'; clear hch'
          have HL2 := Lib.hid hl2; clear hl2 htL
          by_cases htn : n ≤ t
          · -- into a column
            obtain ⟨j, hj⟩ : ∃ j, t = n + j := ⟨t - n, by omega⟩
            have hjm : j < m := by omega
            have hpn : p < n := by
              apply Classical.byContradiction
              intro hc
              obtain ⟨l, hl⟩ : ∃ l, p = n + l := ⟨p - n, by omega⟩
              rw [hl, hj, ← HN.out, room_cc] at g3; omega
            have e3 : (t : Int) - (n : Int) = (j : Int) := by omega
            have HJ := Lib.hid hj; clear hj
            obtain ⟨bx, ox, ex, _, _, _, hcx, _⟩ := HF2.out.gx.at_ (k := p) (by rw [HRC.out.len]; exact hpn)
            obtain ⟨ap, cp, evp, ip1, ip2⟩ := HF2.out.gx.rowForm (k := p) (by rw [HRC.out.len]; exact hpn)
            have hst := HF2.out.gx.store (k := p) (l := j) (by rw [HRC.out.len]; exact hpn) (by rw [HRC.out.row p hpn]; exact hjm) evp
            rw [evp, HRC.out.row p hpn] at hcx
            rw [HRC.out.row p hpn] at ip1
            obtain ⟨bp, op, q3, lp1, lp2, lp3, hce, hfe, st⟩ := hst
            subst q3
            have hq : ix (rowAt X' p) j = elOf X' p j := rfl
            rw [hq] at hce
            have bd := HEL.out p j hpn hjm
            have bb1 := along_bound (bk := bkOf B) (l := l1') (r := roomT T X) (c := M) (by omega) p (n + j)
            have bb2 := HS.out.roomB HO.out (u := p) (v := n + j) (by rw [HN.out, HM.out]; omega) (by rw [HN.out, HM.out]; omega)
            have bb3 := HO.out.el (i := p) (j := j) (by rw [HN.out]; exact hpn) (by rw [HM.out]; exact hjm)
            obtain ⟨Y, hY⟩ : ∃ Y, elOf X' p j = Y := ⟨_, rfl⟩
            rw [hY] at hce bd
            have bb : -1000000 ≤ Y ∧ Y ≤ 1000000 := by omega
            clear bd bb1 bb2 bb3 hq
            have HYY := Lib.hid hY; clear hY
            have hst := st (Y + M); clear st evp
            have hF3 := HF2.out.putX (a := ⟨bp, op + j, none⟩) ⟨lp1, lp2⟩ hst
            have HF3 := Lib.hid hF3; clear hF3 hst
            have HB3 := Lib.hid (HB2.out.put_away ⟨bp, op + j, none⟩ (.int .i64 (Y + M)) (.inl (by simp only; omega)))
            have HU3 := Lib.hid (HU.out.setCell (a := ⟨bp, op + j, none⟩) (.int .i64 (Y + M)) (fun _ => by simp only; omega))
            have hb3 := HB3.out.at_ (k := t) (by rw [HBL.out]; exact htN)
            obtain ⟨_, _, eb, _, _, _, hcb3, _⟩ := hb3
            simp only [Option.some.injEq, Addr.mk.injEq, and_true] at eb
            obtain ⟨rfl, rfl⟩ := eb
            have g5 : ix B t = (p : Int) := by rw [← HHP.out]; exact (HPA.out t (by rw [HLL.out, HL2.out]; simp)).2.2.2.2
            rw [g5] at hcb3
            clear g5
            rw [ex] at y4
            clear ex
            have HDW := Lib.hid ((Ext.refl (wi.setCell ⟨bp, op + j, none⟩ (.int .i64 (Y + M)))).drew)
            go_wp2_with fail
            go_region
            go_wp2
            go_roundg l2'.length
            case rel =>
              refine ⟨p, l1' ++ [t], l2', _, rfl, by rw [HLL.out, HL2.out, List.append_assoc]; rfl, rfl, HCH'.out, g2, HF3.out.carry HDW.out, HB3.out.ext HDW.out, HRC.out.set _, fun a b ha hb => ?_, HU3.out.drew⟩
              rw [HRC.out.el_set hpn hjm, along_snoc (bkOf B) M (roomT T X) HNOT.out, HHP.out]
              have hab := HEL.out a b ha hb
              rw [if_neg (by omega : ¬ (a = t ∧ p = n + b))]
              by_cases k1 : a = p ∧ b = j
              · obtain ⟨rfl, rfl⟩ := k1
                rw [if_pos ⟨rfl, rfl⟩, if_pos ⟨HJ.out.symm, rfl⟩, ← HYY.out, hab]; omega
              · rw [if_neg k1, if_neg (fun e : n + b = t ∧ p = a => k1 ⟨e.2.symm, by have := HJ.out; omega⟩), hab]; omega
            case measure => rw [HGK.out, HL2.out]; simp
          · -- into a row
            have htn' : t < n := by omega
            have hpn : n ≤ p := by
              apply Classical.byContradiction
              intro hc
              rw [room_rr (by rw [HN.out]; omega) (by rw [HN.out]; exact htn')] at g3; omega
            obtain ⟨j, hj⟩ : ∃ j, p = n + j := ⟨p - n, by omega⟩
            have hjm : j < m := by omega
            have e3 : (p : Int) - (n : Int) = (j : Int) := by omega
            have HJ := Lib.hid hj; clear hj
            obtain ⟨bx, ox, ex, _, _, _, hcx, _⟩ := HF2.out.gx.at_ (k := t) (by rw [HRC.out.len]; exact htn')
            obtain ⟨ap, cp, evp, ip1, ip2⟩ := HF2.out.gx.rowForm (k := t) (by rw [HRC.out.len]; exact htn')
            have hst := HF2.out.gx.store (k := t) (l := j) (by rw [HRC.out.len]; exact htn') (by rw [HRC.out.row t htn']; exact hjm) evp
            rw [evp, HRC.out.row t htn'] at hcx
            rw [HRC.out.row t htn'] at ip1
            obtain ⟨bp, op, q3, lp1, lp2, lp3, hce, hfe, st⟩ := hst
            subst q3
            have hq : ix (rowAt X' t) j = elOf X' t j := rfl
            rw [hq] at hce
            have bd := HEL.out t j htn' hjm
            have bb1 := along_bound (bk := bkOf B) (l := l1') (r := roomT T X) (c := M) (by omega) t (n + j)
            have bb2 := HS.out.roomB HO.out (u := t) (v := n + j) (by rw [HN.out, HM.out]; omega) (by rw [HN.out, HM.out]; omega)
            have bb3 := HO.out.el (i := t) (j := j) (by rw [HN.out]; exact htn') (by rw [HM.out]; exact hjm)
            obtain ⟨Y, hY⟩ : ∃ Y, elOf X' t j = Y := ⟨_, rfl⟩
            rw [hY] at hce bd
            have bb : -1000000 ≤ Y ∧ Y ≤ 1000000 := by omega
            clear bd bb1 bb2 bb3 hq
            have HYY := Lib.hid hY; clear hY
            have hst := st (Y - M); clear st evp
            have hF3 := HF2.out.putX (a := ⟨bp, op + j, none⟩) ⟨lp1, lp2⟩ hst
            have HF3 := Lib.hid hF3; clear hF3 hst
            have HB3 := Lib.hid (HB2.out.put_away ⟨bp, op + j, none⟩ (.int .i64 (Y - M)) (.inl (by simp only; omega)))
            have HU3 := Lib.hid (HU.out.setCell (a := ⟨bp, op + j, none⟩) (.int .i64 (Y - M)) (fun _ => by simp only; omega))
            have hb3 := HB3.out.at_ (k := t) (by rw [HBL.out]; exact htN)
            obtain ⟨_, _, eb, _, _, _, hcb3, _⟩ := hb3
            simp only [Option.some.injEq, Addr.mk.injEq, and_true] at eb
            obtain ⟨rfl, rfl⟩ := eb
            have g5 : ix B t = (p : Int) := by rw [← HHP.out]; exact (HPA.out t (by rw [HLL.out, HL2.out]; simp)).2.2.2.2
            rw [g5] at hcb3
            clear g5
            rw [ex] at y4
            clear ex
            have HDW := Lib.hid ((Ext.refl (wi.setCell ⟨bp, op + j, none⟩ (.int .i64 (Y - M)))).drew)
            go_wp2_with fail
            go_region
            go_wp2
            go_roundg l2'.length
            case rel =>
              refine ⟨p, l1' ++ [t], l2', _, rfl, by rw [HLL.out, HL2.out, List.append_assoc]; rfl, rfl, HCH'.out, g2, HF3.out.carry HDW.out, HB3.out.ext HDW.out, HRC.out.set _, fun a b ha hb => ?_, HU3.out.drew⟩
              rw [HRC.out.el_set htn' hjm, along_snoc (bkOf B) M (roomT T X) HNOT.out, HHP.out]
              have hab := HEL.out a b ha hb
              rw [if_neg (by omega : ¬ (n + b = t ∧ p = a))]
              by_cases k1 : a = t ∧ b = j
              · obtain ⟨rfl, rfl⟩ := k1
                rw [if_pos ⟨rfl, rfl⟩, if_pos ⟨rfl, HJ.out⟩, ← HYY.out, hab]; omega
              · rw [if_neg k1, if_neg (fun e : a = t ∧ p = n + b => k1 ⟨e.1, by have := HJ.out; omega⟩), hab]; omega
            case measure => rw [HGK.out, HL2.out]; simp
    · obtain ⟨l2', hl2, hch'⟩ := chain_cons HCH2.out hus
      have htL : u ∈ L := by rw [HLL.out, hl2]; simp
      obtain ⟨g1, g2, g3, g4, g5⟩ := HPA.out u htL
      obtain ⟨p, hp⟩ : ∃ p, bkOf B u = p := ⟨_, rfl⟩
      rw [hp] at g2 g3 g5 hch'
      rw [g5] at hcb2
      have HHP := Lib.hid hp; clear hp g5 hcb
      have HCH' := Lib.hid hch'; clear hch'
      have HL2 := Lib.hid hl2; clear hl2 htL
      have HF1 := Lib.hid (HF.out.carry hdr.ext)
      have hrb := HS.out.roomB HO.out g2 g1
      obtain ⟨R, hR⟩ : ∃ R, roomT T X p u = R := ⟨_, rfl⟩
      rw [hR] at g3 hrb
      have HR := Lib.hid hR; clear hR
      obtain ⟨M, hM⟩ : ∃ M, imin c R = M := ⟨_, rfl⟩
      have hMc := imin_cases c R
      rw [hM] at hMc
      have hMM : 0 < M ∧ M ≤ c ∧ M ≤ R := by omega
      clear hMc
      have HMM := Lib.hid hM; clear hM
      go_wp2_with fail
      refine (room_c lo fb mid hi u0 _ F T X rs cs p u HF1.out HO.out HS.out g2 g1).mono ?_
      rw [HR.out]
      rintro e9 w9 ⟨rfl, d9⟩
      have hdr2 := hdr.trans d9
      have hcb3 := d9.cell hcb2
      go_wp2_with fail
      refine (l1Least_c _ _ _).mono ?_
      rw [HMM.out]
      rintro e9 w9 ⟨rfl, rfl⟩
      rw [HN.out, HM.out] at g2
      go_wp2
      go_roundg l2'.length
      case rel =>
        refine ⟨M, p, l1 ++ [u], l2', rfl, rfl, by rw [HLL.out, HL2.out, List.append_assoc]; rfl, rfl, HCH'.out, g2, by omega, by omega, fun w hw => ?_, hdr2⟩
        simp at hw
        rcases hw with hw | rfl
        · have := HLE.out w hw; omega
        · rw [HHP.out, HR.out]; omega
      case measure => rw [HGK.out, HL2.out]; simp
end Go.Proofs.Ytodnkahnbidgaaa
