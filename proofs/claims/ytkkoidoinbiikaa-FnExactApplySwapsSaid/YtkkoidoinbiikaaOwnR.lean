/- Copies of records, the spec's: rOwn, swOwn. -/
import Derived.Test.YtkkoidoinbiikaaCopy
import Derived.Deep.RegionHeld3
namespace Go.Proofs.Ytkkoidoinbiikaa
open Go.RowKit

set_option maxHeartbeats 1600000 in
theorem rOwn_c (v : Value) (r : Pe) (w : World) (h : PeR w v r) (hne : r.vals ≠ []) (hl : r.vals.length ≤ 1048576) :
    Calls Try.prog 109 #[v] w fun e w' => ∃ rv, e = .returned (.agg #[.int .i64 r.area, .int .i64 r.house, rv]) ∧ Own w.heap.size w'.heap.size w' rv r.vals ∧ Ext w w' := by
  obtain ⟨rv, rfl, hi⟩ := h
  have HI := Lib.hid hi
  obtain ⟨a, c, rfl, p1, p2, p3⟩ := hi
  clear p3
  obtain ⟨A, hA⟩ : ∃ A, r.area = A := ⟨_, rfl⟩
  obtain ⟨H, hH⟩ : ∃ H, r.house = H := ⟨_, rfl⟩
  obtain ⟨xs, hxs⟩ : ∃ xs, r.vals = xs := ⟨_, rfl⟩
  rw [hxs] at HI hl p1 hne
  rw [hA, hH, hxs]
  clear hA hH hxs
  have bx := (Box.new w 50 #[.int .i64 A, .int .i64 H, .slice a xs.length c] rfl).alloc (.cells #[.int .i64 0, .int .i64 0, .slice none 0 0] 50)
  have br := Box.new (w.alloc (.cells #[.int .i64 A, .int .i64 H, .slice a xs.length c] 50)) 50 #[.int .i64 0, .int .i64 0, .slice none 0 0] (b := w.heap.size + 1) (by simp)
  have u0 := ((Ext.refl w).alloc (.cells #[.int .i64 A, .int .i64 H, .slice a xs.length c] 50)).alloc (.cells #[.int .i64 0, .int .i64 0, .slice none 0 0] 50)
  have x0 := bx.cell 0 (by simp)
  have x1 := bx.cell 1 (by simp)
  have x2 := bx.cell 2 (by simp)
  have y0 := br.cell 0 (by simp)
  have y1 := br.cell 1 (by simp)
  have y2 := br.cell 2 (by simp)
  have z0 := br.free 0
  have z1 := br.free 1
  have z2 := br.free 2
  go_enter Try.func109, Try.ntmps109
  go_wp2_with fail
  go_region_with (go_at_call 122; refine (l1Own_c _ xs _ (HI.out.ext u0.drew) hne hl).mono ?_; rintro e w1 ⟨v', rfl, o1, ud⟩; have u1 := (Ext.refl _).drew.trans ud; have O := Lib.hid o1; obtain ⟨a2, c2, rfl, _, _, q3⟩ := o1; clear q3; have k0 := Ext.cell u1 x0; have k1 := Ext.cell u1 x1; have k2 := Ext.cell u1 x2; have bl := br.ext u1; have l0 := bl.cell 0 (by simp); have l1 := bl.cell 1 (by simp); have l2 := bl.cell 2 (by simp); have g0 := bl.free 0; have g1 := bl.free 1; have g2 := bl.free 2)
  all_goals
    have SZ : Hid (w.heap.size + 1 + 1 ≤ w1.heap.size) := Lib.hid bl.lt
    have hlo : (((w.alloc (.cells #[.int .i64 A, .int .i64 H, .slice a xs.length c] 50)).alloc (.cells #[.int .i64 0, .int .i64 0, .slice none 0 0] 50)).drew).heap.size = w.heap.size + 1 + 1 := by simp
    rw [hlo] at O
    clear hlo
    have UX := Lib.hid (u0.trans u1)
    clear u0 u1 ud
    go_wp2
    refine bodyPost_ret (v := .agg #[.int .i64 A, .int .i64 H, .slice a2 xs.length c2]) (by simp [results, Try.results109, go_sem, l0, l1, l2]) rfl ⟨_, rfl, ?_, ?_⟩
    · have hsz : (((w1.setCell ⟨w.heap.size + 1, 0, none⟩ (.int .i64 A)).setCell ⟨w.heap.size + 1, 1, none⟩ (.int .i64 H)).setCell ⟨w.heap.size + 1, 2, none⟩ (.slice a2 xs.length c2)).heap.size = w1.heap.size := by simp [World.setCell]
      rw [hsz]
      exact (((O.out.put_away ⟨w.heap.size + 1, 0, none⟩ _ (.inl (by simp only; omega))).put_away ⟨w.heap.size + 1, 1, none⟩ _ (.inl (by simp only; omega))).put_away ⟨w.heap.size + 1, 2, none⟩ _ (.inl (by simp only; omega))).mono (by omega) (Nat.le_refl _)
    · exact ((UX.out.setCell (a := ⟨w.heap.size + 1, 0, none⟩) _ (by simp only; omega)).setCell (a := ⟨w.heap.size + 1, 1, none⟩) _ (by simp only; omega)).setCell (a := ⟨w.heap.size + 1, 2, none⟩) _ (by simp only; omega)
end Go.Proofs.Ytkkoidoinbiikaa
