/- Layings of slices.Sort at this program. -/
import Derived.Shelf.Sort.Plain
import Derived.Shelf.Slices.Reverse
import Derived.Shelf.Slices.Cells
import Derived.Shelf.Slices.In.SortNone
import Derived.Ground.SlgcProg
import Derived.Shelf.SlicesG.Cmp
import Derived.Test.YtmfbbkackdmbpaaProg
namespace Go.Proofs
open Go.Shelf
def Try.lays189_ren : Go.Shelf.Ren := ⟨fun | 189 => 20 | 125 => 23 | 257 => 22 | 128 => 33 | 129 => 34 | 294 => 24 | 295 => 25 | 296 => 26 | 297 => 27 | 298 => 28 | 299 => 29 | 216 => 30 | 300 => 31 | 301 => 32 | 328 => 35 | 329 => 36 | 330 => 37 | 331 => 38 | 332 => 39 | 215 => 40 | 343 => 41 | n => n, fun | 28 => 22 | 3 => 3 | 46 => 38 | 0 => 0 | 51 => 48 | 53 => 50 | 4 => 4 | 183 => 41 | 182 => 40 | 131 => 45 | 5 => 5 | 9 => 9 | 218 => 51 | 222 => 55 | 228 => 58 | 229 => 59 | n => n, fun | n => n⟩
theorem Try.lays189 : Go.Proofs.Lays.n189 Try.prog Try.lays189_ren := {
  mixed := by kernel_rfl
  f125 := Try.func23.trans (congrArg some (by kernel_rfl))
  f128 := Try.func33.trans (congrArg some (by kernel_rfl))
  f129 := Try.func34.trans (congrArg some (by kernel_rfl))
  f189 := Try.func20.trans (congrArg some (by kernel_rfl))
  f215 := Try.func40.trans (congrArg some (by kernel_rfl))
  f216 := Try.func30.trans (congrArg some (by kernel_rfl))
  f257 := Try.func22.trans (congrArg some (by kernel_rfl))
  f294 := Try.func24.trans (congrArg some (by kernel_rfl))
  f295 := Try.func25.trans (congrArg some (by kernel_rfl))
  f296 := Try.func26.trans (congrArg some (by kernel_rfl))
  f297 := Try.func27.trans (congrArg some (by kernel_rfl))
  f298 := Try.func28.trans (congrArg some (by kernel_rfl))
  f299 := Try.func29.trans (congrArg some (by kernel_rfl))
  f300 := Try.func31.trans (congrArg some (by kernel_rfl))
  f301 := Try.func32.trans (congrArg some (by kernel_rfl))
  f328 := Try.func35.trans (congrArg some (by kernel_rfl))
  f329 := Try.func36.trans (congrArg some (by kernel_rfl))
  f330 := Try.func37.trans (congrArg some (by kernel_rfl))
  f331 := Try.func38.trans (congrArg some (by kernel_rfl))
  f332 := Try.func39.trans (congrArg some (by kernel_rfl))
  f343 := Try.func41.trans (congrArg some (by kernel_rfl))
  t0 := Try.underlying0
  a0 := Try.isAgg0
  z0 := Try.sizeOf0
  v0 := Try.zeroValue0
  t3 := Try.underlying3
  a3 := Try.isAgg3
  z3 := Try.sizeOf3
  v3 := Try.zeroValue3
  t4 := Try.underlying4
  a4 := Try.isAgg4
  z4 := Try.sizeOf4
  v4 := Try.zeroValue4
  t5 := Try.underlying5
  a5 := Try.isAgg5
  z5 := Try.sizeOf5
  v5 := Try.zeroValue5
  t9 := Try.underlying9
  a9 := Try.isAgg9
  z9 := Try.sizeOf9
  v9 := Try.zeroValue9
  t28 := Try.underlying22
  a28 := Try.isAgg22
  z28 := Try.sizeOf22
  v28 := Try.zeroValue22
  t46 := Try.underlying38
  a46 := Try.isAgg38
  z46 := Try.sizeOf38
  v46 := Try.zeroValue38
  t51 := Try.underlying48
  a51 := Try.isAgg48
  z51 := Try.sizeOf48
  v51 := Try.zeroValue48
  t53 := Try.underlying50
  a53 := Try.isAgg50
  z53 := Try.sizeOf50
  v53 := Try.zeroValue50
  t131 := Try.underlying45
  a131 := Try.isAgg45
  z131 := Try.sizeOf45
  v131 := Try.zeroValue45
  t182 := Try.underlying40
  a182 := Try.isAgg40
  z182 := Try.sizeOf40
  v182 := Try.zeroValue40
  t183 := Try.underlying41
  a183 := Try.isAgg41
  z183 := Try.sizeOf41
  v183 := Try.zeroValue41
  t218 := Try.underlying51
  a218 := Try.isAgg51
  z218 := Try.sizeOf51
  v218 := Try.zeroValue51
  t222 := Try.underlying55
  a222 := Try.isAgg55
  z222 := Try.sizeOf55
  v222 := Try.zeroValue55
  t228 := Try.underlying58
  a228 := Try.isAgg58
  z228 := Try.sizeOf58
  v228 := Try.zeroValue58
  t229 := Try.underlying59
  a229 := Try.isAgg59
  z229 := Try.sizeOf59
  v229 := Try.zeroValue59 }
open Go.Sort Go.RowKit in
theorem Try.slices_Sort_int (blk off cap : Nat) (zs : List Int) (w : World) (hH : Holds (Value.int .i64) w blk off zs.toArray) (hblk : blk < w.heap.size) (hsz : zs.length < 4611686018427387904) :
    Calls Try.prog 20 #[.slice (some ⟨blk, off, none⟩) zs.length cap] w fun e w' =>
      e = .returned (.tuple #[]) ∧ ∃ n os, w' = grow (putRow (Value.int .i64) (Sort.ahead w n) blk off (zs.mergeSort fun x y => decide (x ≤ y)).toArray) os := Any.slices_Sort_int Try.lays189 blk off cap zs w hH hblk hsz
def Try.lays112_ren : Go.Shelf.Ren := ⟨fun | 112 => 21 | n => n, fun | 28 => 22 | 3 => 3 | 4 => 4 | 0 => 0 | n => n, fun | n => n⟩
theorem Try.lays112 : Go.Proofs.Lays.n112 Try.prog Try.lays112_ren := {
  mixed := by kernel_rfl
  f112 := Try.func21.trans (congrArg some (by kernel_rfl))
  t0 := Try.underlying0
  a0 := Try.isAgg0
  z0 := Try.sizeOf0
  v0 := Try.zeroValue0
  t3 := Try.underlying3
  a3 := Try.isAgg3
  z3 := Try.sizeOf3
  v3 := Try.zeroValue3
  t4 := Try.underlying4
  a4 := Try.isAgg4
  z4 := Try.sizeOf4
  v4 := Try.zeroValue4
  t28 := Try.underlying22
  a28 := Try.isAgg22
  z28 := Try.sizeOf22
  v28 := Try.zeroValue22 }
open Go.RowKit Go.Lib Go.Sort in
theorem Try.slices_Reverse_int (blk off cap : Nat) (zs : List Int) (w : World) (hH : Holds (Value.int .i64) w blk off zs.toArray) (hsz : zs.length ≤ 9223372036854775807) :
    Calls Try.prog 21 #[.slice (some ⟨blk, off, none⟩) zs.length cap] w fun e w' => e = .returned (.tuple #[]) ∧ ∃ n, w' = putRow (Value.int .i64) (Sort.ahead w n) blk off zs.reverse.toArray := Any.slices_Reverse_int Try.lays112 blk off cap zs w hH hsz
open Go.RowKit Go.Lib Go.Sort in
theorem Try.slices_Reverse_int_empty (a : Option Addr) (cap : Nat) (w : World) :
    Calls Try.prog 21 #[.slice a 0 cap] w fun e w' => e = .returned (.tuple #[]) ∧ w' = w := Any.slices_Reverse_int_empty Try.lays112 a cap w
open Go.RowKit Go.Sort in
theorem Try.slices_Sort_int_none (p : Option Addr) (cap : Nat) (w : World) :
    Calls Try.prog 20 #[.slice p 0 cap] w fun e w' => e = .returned (.tuple #[]) ∧ w' = w := Any.slices_Sort_int_none Try.lays189 p cap w
end Go.Proofs
