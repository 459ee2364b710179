/- Contracts of the shelf at this translation. -/
import Derived.Test.YtjhibbjafjhhjaaDoorKShelf
import Derived.Shelf.Small.Bits
import Derived.Shelf.Sort.Plain
import Derived.Shelf.Slices.In.SortNone
namespace Go.Proofs
open Go.Shelf
def Tryd.lays128_ren : Go.Shelf.Ren := ⟨fun | 128 => 92 | n => n, fun | 51 => 139 | 3 => 3 | 4 => 4 | 46 => 112 | 5 => 5 | 9 => 9 | n => n, fun | n => n⟩
def Tryd.lays125_ren : Go.Shelf.Ren := ⟨fun | 125 => 65 | 128 => 92 | 129 => 93 | n => n, fun | 46 => 112 | 3 => 3 | 51 => 139 | 53 => 82 | 4 => 4 | 5 => 5 | 9 => 9 | n => n, fun | n => n⟩
def Tryd.lays189_ren : Go.Shelf.Ren := ⟨fun | 189 => 42 | 125 => 65 | 257 => 64 | 128 => 92 | 129 => 93 | 294 => 83 | 295 => 84 | 296 => 85 | 297 => 86 | 298 => 87 | 299 => 88 | 216 => 89 | 300 => 90 | 301 => 91 | 328 => 112 | 329 => 113 | 330 => 114 | 331 => 115 | 332 => 116 | 215 => 117 | 343 => 128 | n => n, fun | 28 => 42 | 3 => 3 | 46 => 112 | 0 => 0 | 51 => 139 | 53 => 82 | 4 => 4 | 183 => 132 | 182 => 131 | 131 => 76 | 5 => 5 | 9 => 9 | 218 => 157 | 222 => 161 | 228 => 171 | 229 => 48 | n => n, fun | n => n⟩
theorem Tryd.lays189 : Go.Proofs.Lays.n189 Tryd.prog Tryd.lays189_ren := {
 mixed := by kernel_rfl
 f125 := Tryd.func65.trans (congrArg some (by kernel_rfl))
 f128 := Tryd.func92.trans (congrArg some (by kernel_rfl))
 f129 := Tryd.func93.trans (congrArg some (by kernel_rfl))
 f189 := Tryd.func42.trans (congrArg some (by kernel_rfl))
 f215 := Tryd.func117.trans (congrArg some (by kernel_rfl))
 f216 := Tryd.func89.trans (congrArg some (by kernel_rfl))
 f257 := Tryd.func64.trans (congrArg some (by kernel_rfl))
 f294 := Tryd.func83.trans (congrArg some (by kernel_rfl))
 f295 := Tryd.func84.trans (congrArg some (by kernel_rfl))
 f296 := Tryd.func85.trans (congrArg some (by kernel_rfl))
 f297 := Tryd.func86.trans (congrArg some (by kernel_rfl))
 f298 := Tryd.func87.trans (congrArg some (by kernel_rfl))
 f299 := Tryd.func88.trans (congrArg some (by kernel_rfl))
 f300 := Tryd.func90.trans (congrArg some (by kernel_rfl))
 f301 := Tryd.func91.trans (congrArg some (by kernel_rfl))
 f328 := Tryd.func112.trans (congrArg some (by kernel_rfl))
 f329 := Tryd.func113.trans (congrArg some (by kernel_rfl))
 f330 := Tryd.func114.trans (congrArg some (by kernel_rfl))
 f331 := Tryd.func115.trans (congrArg some (by kernel_rfl))
 f332 := Tryd.func116.trans (congrArg some (by kernel_rfl))
 f343 := Tryd.func128.trans (congrArg some (by kernel_rfl))
 t0 := Tryd.underlying0
 a0 := Tryd.isAgg0
 z0 := Tryd.sizeOf0
 v0 := Tryd.zeroValue0
 t3 := Tryd.underlying3
 a3 := Tryd.isAgg3
 z3 := Tryd.sizeOf3
 v3 := Tryd.zeroValue3
 t4 := Tryd.underlying4
 a4 := Tryd.isAgg4
 z4 := Tryd.sizeOf4
 v4 := Tryd.zeroValue4
 t5 := Tryd.underlying5
 a5 := Tryd.isAgg5
 z5 := Tryd.sizeOf5
 v5 := Tryd.zeroValue5
 t9 := Tryd.underlying9
 a9 := Tryd.isAgg9
 z9 := Tryd.sizeOf9
 v9 := Tryd.zeroValue9
 t28 := Tryd.underlying42
 a28 := Tryd.isAgg42
 z28 := Tryd.sizeOf42
 v28 := Tryd.zeroValue42
 t46 := Tryd.underlying112
 a46 := Tryd.isAgg112
 z46 := Tryd.sizeOf112
 v46 := Tryd.zeroValue112
 t51 := Tryd.underlying139
 a51 := Tryd.isAgg139
 z51 := Tryd.sizeOf139
 v51 := Tryd.zeroValue139
 t53 := Tryd.underlying82
 a53 := Tryd.isAgg82
 z53 := Tryd.sizeOf82
 v53 := Tryd.zeroValue82
 t131 := Tryd.underlying76
 a131 := Tryd.isAgg76
 z131 := Tryd.sizeOf76
 v131 := Tryd.zeroValue76
 t182 := Tryd.underlying131
 a182 := Tryd.isAgg131
 z182 := Tryd.sizeOf131
 v182 := Tryd.zeroValue131
 t183 := Tryd.underlying132
 a183 := Tryd.isAgg132
 z183 := Tryd.sizeOf132
 v183 := Tryd.zeroValue132
 t218 := Tryd.underlying157
 a218 := Tryd.isAgg157
 z218 := Tryd.sizeOf157
 v218 := Tryd.zeroValue157
 t222 := Tryd.underlying161
 a222 := Tryd.isAgg161
 z222 := Tryd.sizeOf161
 v222 := Tryd.zeroValue161
 t228 := Tryd.underlying171
 a228 := Tryd.isAgg171
 z228 := Tryd.sizeOf171
 v228 := Tryd.zeroValue171
 t229 := Tryd.underlying48
 a229 := Tryd.isAgg48
 z229 := Tryd.sizeOf48
 v229 := Tryd.zeroValue48 }
open Go.Sort Go.RowKit in
theorem Tryd.slices_Sort_int (blk off cap : Nat) (zs : List Int) (w : World) (hH : Holds (Value.int .i64) w blk off zs.toArray) (hblk : blk < w.heap.size) (hsz : zs.length < 4611686018427387904) :
  Calls Tryd.prog 42 #[.slice (some ⟨blk, off, none⟩) zs.length cap] w fun e w' =>
   e = .returned (.tuple #[]) /\ ∃ n os, w' = grow (putRow (Value.int .i64) (Sort.ahead w n) blk off (zs.mergeSort fun x y => decide (x <= y)).toArray) os := Any.slices_Sort_int Tryd.lays189 blk off cap zs w hH hblk hsz
open Go.RowKit Go.Sort in
theorem Tryd.slices_Sort_int_none (p : Option Addr) (cap : Nat) (w : World) :
  Calls Tryd.prog 42 #[.slice p 0 cap] w fun e w' => e = .returned (.tuple #[]) /\ w' = w := Any.slices_Sort_int_none Tryd.lays189 p cap w
end Go.Proofs
