/-
  DERIVED: THE SHELF's CONTRACTS AT THIS DUMP, IN PLAIN WORDS (tools/lay-plain.mjs out of 'TryzShelf.lean', which tools/lay-shelf.mjs wrote): THE SAME DECLARATIONS UNDER THE SAME NAMES: 'import', 'namespace', 'open', 'def', 'theorem' AND NOTHING ELSE: no command of the shelf's: FOR A HAND-IN. Each laying: the table of numbers ('.._ren') and one theorem, a field a fact of the dump's own or the kernel's comparison; each contract: ONE APPLICATION.
-/
import Derived.Shelf.Small.Bits
import Derived.Shelf.Small.Strs
import Derived.Shelf.Small.Wraps
import Derived.Shelf.Strconv.Itoa0
import Derived.Shelf.Sort.Plain
import Derived.Ground.Names2Prog
import Derived.Shelf.Slices.CompactI
import Derived.Shelf.Slices.SearchI
import Derived.Shelf.Slices.Cells
import Derived.Shelf.Slices.In.SortNone
import Derived.Test.YtneghhbclefmoaaGreatProg
namespace Go.Proofs
open Go.Shelf
def Tryz.lays128_ren : Go.Shelf.Ren := ⟨fun | 128 => 201 | n => n, fun | 51 => 83 | 3 => 3 | 4 => 4 | 46 => 246 | 5 => 5 | 9 => 9 | n => n, fun | n => n⟩
def Tryz.lays125_ren : Go.Shelf.Ren := ⟨fun | 125 => 179 | 128 => 201 | 129 => 202 | n => n, fun | 46 => 246 | 3 => 3 | 51 => 83 | 53 => 264 | 4 => 4 | 5 => 5 | 9 => 9 | n => n, fun | n => n⟩
def Tryz.lays213_ren : Go.Shelf.Ren := ⟨fun | 213 => 177 | 265 => 191 | n => n, fun | 9 => 9 | 3 => 3 | n => n, fun | n => n⟩
open Go.RowKit in
def Tryz.lays106_ren : Go.Shelf.Ren := ⟨fun | 106 => 154 | 213 => 177 | 265 => 191 | n => n, fun | 9 => 9 | 3 => 3 | n => n, fun | n => n⟩
theorem Tryz.lays106 : Go.Proofs.Lays.n106 Tryz.prog Tryz.lays106_ren := {
 mixed := by kernel_rfl
 f106 := Tryz.func154.trans (congrArg some (by kernel_rfl))
 f213 := Tryz.func177.trans (congrArg some (by kernel_rfl))
 f265 := Tryz.func191.trans (congrArg some (by kernel_rfl))
 t3 := Tryz.underlying3
 a3 := Tryz.isAgg3
 z3 := Tryz.sizeOf3
 v3 := Tryz.zeroValue3
 t9 := Tryz.underlying9
 a9 := Tryz.isAgg9
 z9 := Tryz.sizeOf9
 v9 := Tryz.zeroValue9 }
open Go.RowKit in
theorem Tryz.strings_Compare (a b : ByteArray) (w : World) :
  Calls Tryz.prog 154 #[.string a, .string b] w fun e w' => e = .returned (.int .i64 (Lib.compareBytes a.data.toList b.data.toList)) /\ w' = w := Any.strings_Compare Tryz.lays106 a b w
def Tryz.lays215_ren : Go.Shelf.Ren := ⟨fun | 215 => 125 | n => n, fun | 3 => 3 | 4 => 4 | n => n, fun | n => n⟩
open Go.RowKit in
def Tryz.lays122_ren : Go.Shelf.Ren := ⟨fun | 122 => 84 | 215 => 125 | n => n, fun | 3 => 3 | 4 => 4 | n => n, fun | n => n⟩
open Go.RowKit in
def Tryz.lays129_ren : Go.Shelf.Ren := ⟨fun | 129 => 202 | n => n, fun | 53 => 264 | 3 => 3 | 4 => 4 | 46 => 246 | 5 => 5 | 9 => 9 | n => n, fun | n => n⟩
def Tryz.lays189_ren : Go.Shelf.Ren := ⟨fun | 189 => 155 | 125 => 179 | 257 => 178 | 128 => 201 | 129 => 202 | 294 => 192 | 295 => 193 | 296 => 194 | 297 => 195 | 298 => 196 | 299 => 197 | 216 => 198 | 300 => 199 | 301 => 200 | 328 => 207 | 329 => 208 | 330 => 209 | 331 => 210 | 332 => 211 | 215 => 125 | 343 => 215 | n => n, fun | 28 => 55 | 3 => 3 | 46 => 246 | 0 => 0 | 51 => 83 | 53 => 264 | 4 => 4 | 183 => 256 | 182 => 255 | 131 => 260 | 5 => 5 | 9 => 9 | 218 => 267 | 222 => 271 | 228 => 273 | 229 => 132 | n => n, fun | n => n⟩
theorem Tryz.lays189 : Go.Proofs.Lays.n189 Tryz.prog Tryz.lays189_ren := {
 mixed := by kernel_rfl
 f125 := Tryz.func179.trans (congrArg some (by kernel_rfl))
 f128 := Tryz.func201.trans (congrArg some (by kernel_rfl))
 f129 := Tryz.func202.trans (congrArg some (by kernel_rfl))
 f189 := Tryz.func155.trans (congrArg some (by kernel_rfl))
 f215 := Tryz.func125.trans (congrArg some (by kernel_rfl))
 f216 := Tryz.func198.trans (congrArg some (by kernel_rfl))
 f257 := Tryz.func178.trans (congrArg some (by kernel_rfl))
 f294 := Tryz.func192.trans (congrArg some (by kernel_rfl))
 f295 := Tryz.func193.trans (congrArg some (by kernel_rfl))
 f296 := Tryz.func194.trans (congrArg some (by kernel_rfl))
 f297 := Tryz.func195.trans (congrArg some (by kernel_rfl))
 f298 := Tryz.func196.trans (congrArg some (by kernel_rfl))
 f299 := Tryz.func197.trans (congrArg some (by kernel_rfl))
 f300 := Tryz.func199.trans (congrArg some (by kernel_rfl))
 f301 := Tryz.func200.trans (congrArg some (by kernel_rfl))
 f328 := Tryz.func207.trans (congrArg some (by kernel_rfl))
 f329 := Tryz.func208.trans (congrArg some (by kernel_rfl))
 f330 := Tryz.func209.trans (congrArg some (by kernel_rfl))
 f331 := Tryz.func210.trans (congrArg some (by kernel_rfl))
 f332 := Tryz.func211.trans (congrArg some (by kernel_rfl))
 f343 := Tryz.func215.trans (congrArg some (by kernel_rfl))
 t0 := Tryz.underlying0
 a0 := Tryz.isAgg0
 z0 := Tryz.sizeOf0
 v0 := Tryz.zeroValue0
 t3 := Tryz.underlying3
 a3 := Tryz.isAgg3
 z3 := Tryz.sizeOf3
 v3 := Tryz.zeroValue3
 t4 := Tryz.underlying4
 a4 := Tryz.isAgg4
 z4 := Tryz.sizeOf4
 v4 := Tryz.zeroValue4
 t5 := Tryz.underlying5
 a5 := Tryz.isAgg5
 z5 := Tryz.sizeOf5
 v5 := Tryz.zeroValue5
 t9 := Tryz.underlying9
 a9 := Tryz.isAgg9
 z9 := Tryz.sizeOf9
 v9 := Tryz.zeroValue9
 t28 := Tryz.underlying55
 a28 := Tryz.isAgg55
 z28 := Tryz.sizeOf55
 v28 := Tryz.zeroValue55
 t46 := Tryz.underlying246
 a46 := Tryz.isAgg246
 z46 := Tryz.sizeOf246
 v46 := Tryz.zeroValue246
 t51 := Tryz.underlying83
 a51 := Tryz.isAgg83
 z51 := Tryz.sizeOf83
 v51 := Tryz.zeroValue83
 t53 := Tryz.underlying264
 a53 := Tryz.isAgg264
 z53 := Tryz.sizeOf264
 v53 := Tryz.zeroValue264
 t131 := Tryz.underlying260
 a131 := Tryz.isAgg260
 z131 := Tryz.sizeOf260
 v131 := Tryz.zeroValue260
 t182 := Tryz.underlying255
 a182 := Tryz.isAgg255
 z182 := Tryz.sizeOf255
 v182 := Tryz.zeroValue255
 t183 := Tryz.underlying256
 a183 := Tryz.isAgg256
 z183 := Tryz.sizeOf256
 v183 := Tryz.zeroValue256
 t218 := Tryz.underlying267
 a218 := Tryz.isAgg267
 z218 := Tryz.sizeOf267
 v218 := Tryz.zeroValue267
 t222 := Tryz.underlying271
 a222 := Tryz.isAgg271
 z222 := Tryz.sizeOf271
 v222 := Tryz.zeroValue271
 t228 := Tryz.underlying273
 a228 := Tryz.isAgg273
 z228 := Tryz.sizeOf273
 v228 := Tryz.zeroValue273
 t229 := Tryz.underlying132
 a229 := Tryz.isAgg132
 z229 := Tryz.sizeOf132
 v229 := Tryz.zeroValue132 }
open Go.Sort Go.RowKit in
theorem Tryz.slices_Sort_int (blk off cap : Nat) (zs : List Int) (w : World) (hH : Holds (Value.int .i64) w blk off zs.toArray) (hblk : blk < w.heap.size) (hsz : zs.length < 4611686018427387904) :
  Calls Tryz.prog 155 #[.slice (some ⟨blk, off, none⟩) zs.length cap] w fun e w' =>
   e = .returned (.tuple #[]) /\ ∃ n os, w' = grow (putRow (Value.int .i64) (Sort.ahead w n) blk off (zs.mergeSort fun x y => decide (x <= y)).toArray) os := Any.slices_Sort_int Tryz.lays189 blk off cap zs w hH hblk hsz
def Tryz.laysNm220_ren : Go.Shelf.Ren := ⟨fun | 20 => 157 | n => n, fun | 22 => 55 | 3 => 3 | 4 => 4 | 0 => 0 | n => n, fun | n => n⟩
theorem Tryz.laysNm220 : Go.Proofs.Lays2.n20 Tryz.prog Tryz.laysNm220_ren := {
 mixed := by kernel_rfl
 f20 := Tryz.func157.trans (congrArg some (by kernel_rfl))
 t0 := Tryz.underlying0
 a0 := Tryz.isAgg0
 z0 := Tryz.sizeOf0
 v0 := Tryz.zeroValue0
 t3 := Tryz.underlying3
 a3 := Tryz.isAgg3
 z3 := Tryz.sizeOf3
 v3 := Tryz.zeroValue3
 t4 := Tryz.underlying4
 a4 := Tryz.isAgg4
 z4 := Tryz.sizeOf4
 v4 := Tryz.zeroValue4
 t22 := Tryz.underlying55
 a22 := Tryz.isAgg55
 z22 := Tryz.sizeOf55
 v22 := Tryz.zeroValue55
 i3 := by kernel_rfl }
open Go.RowKit Go.Lib Go.Sort in
open Go.RowKit Go.Lib Go.Sort in
theorem Tryz.slices_Compact_int (blk off cap : Nat) (zs : List Int) (w : World) (hH : Holds (Value.int .i64) w blk off zs.toArray) (hsz : zs.length <= 9223372036854775807) (hcap : zs.length <= cap) :
  Calls Tryz.prog 157 #[.slice (some ⟨blk, off, none⟩) zs.length cap] w fun e w' => e = .returned (.slice (some ⟨blk, off, none⟩) (Lib.compact zs).length cap) /\ ∃ q, w' = putRow (Value.int .i64) (Sort.ahead w q) blk off (Lib.compact zs ++ List.replicate (zs.length - (Lib.compact zs).length) 0).toArray := Any.slices_Compact_int Tryz.laysNm220 blk off cap zs w hH hsz hcap
open Go.RowKit Go.Lib Go.Sort in
theorem Tryz.slices_Compact_int_empty (a : Option Addr) (cap : Nat) (w : World) :
  Calls Tryz.prog 157 #[.slice a 0 cap] w fun e w' => e = .returned (.slice a 0 cap) /\ w' = w := Any.slices_Compact_int_empty Tryz.laysNm220 a cap w
def Tryz.laysNm237_ren : Go.Shelf.Ren := ⟨fun | 37 => 125 | n => n, fun | 3 => 3 | 4 => 4 | n => n, fun | n => n⟩
open Go.RowKit Go.Lib in
def Tryz.laysNm231_ren : Go.Shelf.Ren := ⟨fun | 31 => 198 | 37 => 125 | n => n, fun | 3 => 3 | 4 => 4 | n => n, fun | n => n⟩
open Go.RowKit Go.Lib in
open Go.RowKit Go.Lib Go.Sort in
open Go.RowKit Go.Sort in
theorem Tryz.slices_Sort_int_none (p : Option Addr) (cap : Nat) (w : World) :
  Calls Tryz.prog 155 #[.slice p 0 cap] w fun e w' => e = .returned (.tuple #[]) /\ w' = w := Any.slices_Sort_int_none Tryz.lays189 p cap w
end Go.Proofs
