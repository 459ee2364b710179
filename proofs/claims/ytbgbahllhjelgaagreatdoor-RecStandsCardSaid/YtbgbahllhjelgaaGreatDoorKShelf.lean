/-
  DERIVED: THE SHELF's CONTRACTS AT THIS DUMP, IN PLAIN WORDS (tools/lay-plain.mjs out of 'TryzShelf.lean', which tools/lay-shelf.mjs wrote): THE SAME DECLARATIONS UNDER THE SAME NAMES: 'import', 'namespace', 'open', 'def', 'theorem' AND NOTHING ELSE: no command of the shelf's: FOR A HAND-IN. Each laying: the table of numbers ('.._ren') and one theorem, a field a fact of the dump's own or the kernel's comparison; each contract: ONE APPLICATION.
-/
import Derived.Shelf.Strings.Builder1
import Derived.Shelf.Small.Strs
import Derived.Shelf.Small.Wraps
import Derived.Shelf.Strings.BuilderF
import Derived.Shelf.Strings.BuilderK
import Derived.Shelf.Strconv.Itoa0
import Derived.Shelf.Strconv.Itoa1
import Derived.Shelf.LaysM
import Derived.Shelf.Strconv.Itoa2
import Derived.Shelf.Strconv.Itoa3
import Derived.Shelf.Strings.Search1
import Derived.Ground.Names2Prog
import Derived.Shelf.Slices.SearchI
import Derived.Test.YtbgbahllhjelgaaGreatDoorProg
namespace Go.Proofs
open Go.Shelf
def Tryz.lays169_ren : Go.Shelf.Ren := ⟨fun | 169 => 75 | n => n, fun | 70 => 100 | 9 => 9 | 0 => 0 | 72 => 102 | 37 => 27 | 127 => 125 | 3 => 3 | 5 => 5 | n => n, fun | n => n⟩
theorem Tryz.lays169 : Go.Proofs.Lays.n169 Tryz.prog Tryz.lays169_ren := {
 mixed := by kernel_rfl
 f169 := Tryz.func75.trans (congrArg some (by kernel_rfl))
 t0 := Tryz.underlying0
 a0 := Tryz.isAgg0
 z0 := Tryz.sizeOf0
 v0 := Tryz.zeroValue0
 t3 := Tryz.underlying3
 a3 := Tryz.isAgg3
 z3 := Tryz.sizeOf3
 v3 := Tryz.zeroValue3
 t9 := Tryz.underlying9
 a9 := Tryz.isAgg9
 z9 := Tryz.sizeOf9
 v9 := Tryz.zeroValue9
 t37 := Tryz.underlying27
 a37 := Tryz.isAgg27
 z37 := Tryz.sizeOf27
 v37 := Tryz.zeroValue27
 t70 := Tryz.underlying100
 a70 := Tryz.isAgg100
 z70 := Tryz.sizeOf100
 v70 := Tryz.zeroValue100
 t72 := Tryz.underlying102
 a72 := Tryz.isAgg102
 z72 := Tryz.sizeOf102
 v72 := Tryz.zeroValue102
 t127 := Tryz.underlying125
 a127 := Tryz.isAgg125
 z127 := Tryz.sizeOf125
 v127 := Tryz.zeroValue125 }
theorem Tryz.Builder_Extra_169 : Builder.Extra Tryz.prog Tryz.lays169_ren := {
 sizeBuilder := by kernel_rfl
 liesBuilder := by kernel_rfl
 t5 := Tryz.underlying5
 a5 := Tryz.isAgg5
 z5 := Tryz.sizeOf5
 v5 := Tryz.zeroValue5
 infoByte := by kernel_rfl
 cellsByte := by kernel_rfl
 sizeByte := by kernel_rfl
 neB5 := by decide }
def Tryz.lays213_ren : Go.Shelf.Ren := ⟨fun | 213 => 100 | 265 => 123 | n => n, fun | 9 => 9 | 3 => 3 | n => n, fun | n => n⟩
def Tryz.lays106_ren : Go.Shelf.Ren := ⟨fun | 106 => 71 | 213 => 100 | 265 => 123 | n => n, fun | 9 => 9 | 3 => 3 | n => n, fun | n => n⟩
theorem Tryz.lays106 : Go.Proofs.Lays.n106 Tryz.prog Tryz.lays106_ren := {
 mixed := by kernel_rfl
 f106 := Tryz.func71.trans (congrArg some (by kernel_rfl))
 f213 := Tryz.func100.trans (congrArg some (by kernel_rfl))
 f265 := Tryz.func123.trans (congrArg some (by kernel_rfl))
 t3 := Tryz.underlying3
 a3 := Tryz.isAgg3
 z3 := Tryz.sizeOf3
 v3 := Tryz.zeroValue3
 t9 := Tryz.underlying9
 a9 := Tryz.isAgg9
 z9 := Tryz.sizeOf9
 v9 := Tryz.zeroValue9 }
open Go.RowKit in
theorem Tryz.strings_Compare (a b : ByteArray) (w : World) :
  Calls Tryz.prog 71 #[.string a, .string b] w fun e w' => e = .returned (.int .i64 (Lib.compareBytes a.data.toList b.data.toList)) /\ w' = w := Any.strings_Compare Tryz.lays106 a b w
def Tryz.lays137_ren : Go.Shelf.Ren := ⟨fun | 137 => 106 | 217 => 127 | 266 => 137 | n => n, fun | 9 => 9 | 5 => 5 | 3 => 3 | n => n, fun | n => n⟩
theorem Tryz.lays137 : Go.Proofs.Lays.n137 Tryz.prog Tryz.lays137_ren := {
 mixed := by kernel_rfl
 f137 := Tryz.func106.trans (congrArg some (by kernel_rfl))
 f217 := Tryz.func127.trans (congrArg some (by kernel_rfl))
 f266 := Tryz.func137.trans (congrArg some (by kernel_rfl))
 t3 := Tryz.underlying3
 a3 := Tryz.isAgg3
 z3 := Tryz.sizeOf3
 v3 := Tryz.zeroValue3
 t5 := Tryz.underlying5
 a5 := Tryz.isAgg5
 z5 := Tryz.sizeOf5
 v5 := Tryz.zeroValue5
 t9 := Tryz.underlying9
 a9 := Tryz.isAgg9
 z9 := Tryz.sizeOf9
 v9 := Tryz.zeroValue9 }
open Go.RowKit in
theorem Tryz.strings_IndexByte (s : ByteArray) (c : Int) (w : World) :
  Calls Tryz.prog 106 #[.string s, .int .u8 c] w fun e w' => e = .returned (.int .i64 (Lib.indexByte s.data.toList c.toNat.toUInt8)) /\ w' = w := Any.strings_IndexByte Tryz.lays137 s c w
def Tryz.lays215_ren : Go.Shelf.Ren := ⟨fun | 215 => 66 | n => n, fun | 3 => 3 | 4 => 4 | n => n, fun | n => n⟩
def Tryz.lays122_ren : Go.Shelf.Ren := ⟨fun | 122 => 35 | 215 => 66 | n => n, fun | 3 => 3 | 4 => 4 | n => n, fun | n => n⟩
open Go.RowKit in
theorem Tryz.Builder_String_any_k (B b : Nat) (l : List UInt8) (w : World) (h : Lib.IsBuilderF 102 5 B b (Lib.byteCells l) w) (hBw : B <= w.heap.size) :
  Calls Tryz.prog 75 #[.pointer (some ⟨b, 0, none⟩)] w fun e w' => e = .returned (.string ⟨l.toArray⟩) /\ (Lib.IsBuilderF 102 5 B b (Lib.byteCells l) w' /\ Below B w w' /\ Lib.OthersKept 5 (some b) w w') := Any.Builder_String_any_k Tryz.lays169 Tryz.Builder_Extra_169 B b l w h hBw
def Tryz.lays129_ren : Go.Shelf.Ren := ⟨fun | 129 => 129 | n => n, fun | 53 => 72 | 3 => 3 | 4 => 4 | 46 => 151 | 5 => 5 | 9 => 9 | n => n, fun | n => n⟩
def Tryz.lays317_ren : Go.Shelf.Ren := ⟨fun | 317 => 128 | n => n, fun | 3 => 3 | 46 => 151 | n => n, fun | n => n⟩
def Tryz.lays318_ren : Go.Shelf.Ren := ⟨fun | 318 => 130 | n => n, fun | 3 => 3 | 4 => 4 | n => n, fun | n => n⟩
def Tryz.lays283_ren : Go.Shelf.Ren := ⟨fun | 283 => 108 | n => n, fun | 3 => 3 | 9 => 9 | 4 => 4 | n => n, fun | n => n⟩
theorem Tryz.lays283 : Go.Proofs.Lays.n283 Tryz.prog Tryz.lays283_ren := {
 mixed := by kernel_rfl
 f283 := Tryz.func108.trans (congrArg some (by kernel_rfl))
 t3 := Tryz.underlying3
 a3 := Tryz.isAgg3
 z3 := Tryz.sizeOf3
 v3 := Tryz.zeroValue3
 t4 := Tryz.underlying4
 a4 := Tryz.isAgg4
 z4 := Tryz.sizeOf4
 v4 := Tryz.zeroValue4
 t9 := Tryz.underlying9
 a9 := Tryz.isAgg9
 z9 := Tryz.sizeOf9
 v9 := Tryz.zeroValue9 }
open Go.Lib in
theorem Tryz.internal_strconv_small (i : Nat) (h : i < 100) (w : World) :
  Calls Tryz.prog 108 #[.int .i64 i] w fun e w' => e = .returned (.string ⟨(Lib.decDigits i).toArray⟩) /\ w' = w := Any.internal_strconv_small Tryz.lays283 i h w
def Tryz.laysM284_ren : Go.Shelf.Ren := ⟨fun | 284 => 109 | 129 => 129 | 317 => 128 | 318 => 130 | n => n, fun | 53 => 72 | 3 => 3 | 212 => 149 | 0 => 0 | 4 => 4 | 46 => 151 | 5 => 5 | 9 => 9 | n => n, fun | 17 => 1 | n => n⟩
theorem Tryz.laysM284 : Go.Proofs.LaysM.n284 Tryz.prog Tryz.laysM284_ren := {
 mixed := by kernel_rfl
 f129 := Tryz.func129.trans (congrArg some (by kernel_rfl))
 f284 := Tryz.func109.trans (congrArg some (by kernel_rfl))
 f317 := Tryz.func128.trans (congrArg some (by kernel_rfl))
 f318 := Tryz.func130.trans (congrArg some (by kernel_rfl))
 t0 := Tryz.underlying0
 a0 := Tryz.isAgg0
 z0 := Tryz.sizeOf0
 v0 := Tryz.zeroValue0
 t3 := Tryz.underlying3
 a3 := Tryz.isAgg3
 z3 := Tryz.sizeOf3
 v3 := Tryz.zeroValue3
 t4 := Tryz.underlying4
 a4 := Tryz.isAgg4
 z4 := Tryz.sizeOf4
 v4 := Tryz.zeroValue4
 t5 := Tryz.underlying5
 a5 := Tryz.isAgg5
 z5 := Tryz.sizeOf5
 v5 := Tryz.zeroValue5
 t9 := Tryz.underlying9
 a9 := Tryz.isAgg9
 z9 := Tryz.sizeOf9
 v9 := Tryz.zeroValue9
 t46 := Tryz.underlying151
 a46 := Tryz.isAgg151
 z46 := Tryz.sizeOf151
 v46 := Tryz.zeroValue151
 t53 := Tryz.underlying72
 a53 := Tryz.isAgg72
 z53 := Tryz.sizeOf72
 v53 := Tryz.zeroValue72
 t212 := Tryz.underlying149
 a212 := Tryz.isAgg149
 z212 := Tryz.sizeOf149
 v212 := Tryz.zeroValue149
 g17 := by kernel_rfl
 i0 := by kernel_rfl
 i3 := by kernel_rfl
 i4 := by kernel_rfl
 i5 := by kernel_rfl
 i9 := by kernel_rfl
 i46 := by kernel_rfl
 i53 := by kernel_rfl
 i212 := by kernel_rfl
 m17 := by kernel_rfl }
open Go.Lib in
theorem Tryz.internal_strconv_numDigits (u : Nat) (h1 : 1 <= u) (h2 : u < 18446744073709551616) (w : World) (htab : Lib.TabIs Tryz.prog w "internal/strconv.uint64pow10" .u64 Lib.pow10Tab) :
  Calls Tryz.prog 109 #[.int .u64 u] w fun e w' => e = .returned (.int .i64 (Lib.nDigits u)) /\ w' = w := Any.internal_strconv_numDigits Tryz.laysM284 u h1 h2 w htab
def Tryz.lays285_ren : Go.Shelf.Ren := ⟨fun | 285 => 110 | n => n, fun | 37 => 27 | 53 => 72 | 3 => 3 | 4 => 4 | 51 => 24 | 9 => 9 | 5 => 5 | 0 => 0 | n => n, fun | n => n⟩
theorem Tryz.lays285 : Go.Proofs.Lays.n285 Tryz.prog Tryz.lays285_ren := {
 mixed := by kernel_rfl
 f285 := Tryz.func110.trans (congrArg some (by kernel_rfl))
 t0 := Tryz.underlying0
 a0 := Tryz.isAgg0
 z0 := Tryz.sizeOf0
 v0 := Tryz.zeroValue0
 t3 := Tryz.underlying3
 a3 := Tryz.isAgg3
 z3 := Tryz.sizeOf3
 v3 := Tryz.zeroValue3
 t4 := Tryz.underlying4
 a4 := Tryz.isAgg4
 z4 := Tryz.sizeOf4
 v4 := Tryz.zeroValue4
 t5 := Tryz.underlying5
 a5 := Tryz.isAgg5
 z5 := Tryz.sizeOf5
 v5 := Tryz.zeroValue5
 t9 := Tryz.underlying9
 a9 := Tryz.isAgg9
 z9 := Tryz.sizeOf9
 v9 := Tryz.zeroValue9
 t37 := Tryz.underlying27
 a37 := Tryz.isAgg27
 z37 := Tryz.sizeOf27
 v37 := Tryz.zeroValue27
 t51 := Tryz.underlying24
 a51 := Tryz.isAgg24
 z51 := Tryz.sizeOf24
 v51 := Tryz.zeroValue24
 t53 := Tryz.underlying72
 a53 := Tryz.isAgg72
 z53 := Tryz.sizeOf72
 v53 := Tryz.zeroValue72 }
open Go.RowKit Go.Sort Go.Lib in
theorem Tryz.internal_strconv_formatBase10 (blk off cap : Nat) (u : Nat) (d : Array UInt8) (w : World) (hH : Holds (fun (b : UInt8) => Value.int .u8 (b.toNat : Int)) w blk off d) (hu : u < 10 ^ d.size) (hu64 : u < 18446744073709551616) (hsz : d.size < 4611686018427387904) :
  Calls Tryz.prog 110 #[.slice (some ⟨blk, off, none⟩) d.size cap, .int .u64 u] w fun e w' =>
   e = .returned (.tuple #[]) /\ ∃ (n v' : Nat) (dk : Array UInt8), w' = (putRow (fun (b : UInt8) => Value.int .u8 (b.toNat : Int)) w blk off dk).drewN n /\ FmtInv d.size u 0 v' dk := Any.internal_strconv_formatBase10 Tryz.lays285 blk off cap u d w hH hu hu64 hsz
def Tryz.laysM246_ren : Go.Shelf.Ren := ⟨fun | 246 => 133 | 283 => 108 | 284 => 109 | 285 => 110 | 286 => 111 | 129 => 129 | 317 => 128 | 318 => 130 | 319 => 131 | 320 => 132 | 337 => 138 | 338 => 139 | n => n, fun | 2 => 2 | 3 => 3 | 9 => 9 | 4 => 4 | 171 => 132 | 0 => 0 | 53 => 72 | 37 => 27 | 5 => 5 | 173 => 135 | 212 => 149 | 51 => 24 | 20 => 20 | 213 => 150 | 46 => 151 | 232 => 161 | 233 => 162 | n => n, fun | 17 => 1 | 18 => 2 | 19 => 3 | n => n⟩
def Tryz.lays246_ren : Go.Shelf.Ren := ⟨fun | 246 => 133 | 283 => 108 | 284 => 109 | 285 => 110 | 286 => 111 | 129 => 129 | 317 => 128 | 318 => 130 | 319 => 131 | 320 => 132 | 337 => 138 | 338 => 139 | n => n, fun | 2 => 2 | 3 => 3 | 9 => 9 | 4 => 4 | 171 => 132 | 0 => 0 | 53 => 72 | 37 => 27 | 5 => 5 | 173 => 135 | 212 => 149 | 51 => 24 | 20 => 20 | 213 => 150 | 46 => 151 | 232 => 161 | 233 => 162 | n => n, fun | 17 => 1 | 18 => 2 | 19 => 3 | n => n⟩
def Tryz.laysM243_ren : Go.Shelf.Ren := ⟨fun | 243 => 112 | 246 => 133 | 283 => 108 | 284 => 109 | 285 => 110 | 286 => 111 | 129 => 129 | 317 => 128 | 318 => 130 | 319 => 131 | 320 => 132 | 337 => 138 | 338 => 139 | n => n, fun | 3 => 3 | 9 => 9 | 2 => 2 | 4 => 4 | 171 => 132 | 0 => 0 | 53 => 72 | 37 => 27 | 5 => 5 | 173 => 135 | 212 => 149 | 51 => 24 | 20 => 20 | 213 => 150 | 46 => 151 | 232 => 161 | 233 => 162 | n => n, fun | 17 => 1 | 18 => 2 | 19 => 3 | n => n⟩
def Tryz.lays243_ren : Go.Shelf.Ren := ⟨fun | 243 => 112 | 246 => 133 | 283 => 108 | 284 => 109 | 285 => 110 | 286 => 111 | 129 => 129 | 317 => 128 | 318 => 130 | 319 => 131 | 320 => 132 | 337 => 138 | 338 => 139 | n => n, fun | 3 => 3 | 9 => 9 | 2 => 2 | 4 => 4 | 171 => 132 | 0 => 0 | 53 => 72 | 37 => 27 | 5 => 5 | 173 => 135 | 212 => 149 | 51 => 24 | 20 => 20 | 213 => 150 | 46 => 151 | 232 => 161 | 233 => 162 | n => n, fun | 17 => 1 | 18 => 2 | 19 => 3 | n => n⟩
def Tryz.laysM171_ren : Go.Shelf.Ren := ⟨fun | 171 => 80 | 243 => 112 | 246 => 133 | 283 => 108 | 284 => 109 | 285 => 110 | 286 => 111 | 129 => 129 | 317 => 128 | 318 => 130 | 319 => 131 | 320 => 132 | 337 => 138 | 338 => 139 | n => n, fun | 3 => 3 | 9 => 9 | 2 => 2 | 4 => 4 | 171 => 132 | 0 => 0 | 53 => 72 | 37 => 27 | 5 => 5 | 173 => 135 | 212 => 149 | 51 => 24 | 20 => 20 | 213 => 150 | 46 => 151 | 232 => 161 | 233 => 162 | n => n, fun | 17 => 1 | 18 => 2 | 19 => 3 | n => n⟩
theorem Tryz.laysM171 : Go.Proofs.LaysM.n171 Tryz.prog Tryz.laysM171_ren := {
 mixed := by kernel_rfl
 f129 := Tryz.func129.trans (congrArg some (by kernel_rfl))
 f171 := Tryz.func80.trans (congrArg some (by kernel_rfl))
 f243 := Tryz.func112.trans (congrArg some (by kernel_rfl))
 f246 := Tryz.func133.trans (congrArg some (by kernel_rfl))
 f283 := Tryz.func108.trans (congrArg some (by kernel_rfl))
 f284 := Tryz.func109.trans (congrArg some (by kernel_rfl))
 f285 := Tryz.func110.trans (congrArg some (by kernel_rfl))
 f286 := Tryz.func111.trans (congrArg some (by kernel_rfl))
 f317 := Tryz.func128.trans (congrArg some (by kernel_rfl))
 f318 := Tryz.func130.trans (congrArg some (by kernel_rfl))
 f319 := Tryz.func131.trans (congrArg some (by kernel_rfl))
 f320 := Tryz.func132.trans (congrArg some (by kernel_rfl))
 f337 := Tryz.func138.trans (congrArg some (by kernel_rfl))
 f338 := Tryz.func139.trans (congrArg some (by kernel_rfl))
 t0 := Tryz.underlying0
 a0 := Tryz.isAgg0
 z0 := Tryz.sizeOf0
 v0 := Tryz.zeroValue0
 t2 := Tryz.underlying2
 a2 := Tryz.isAgg2
 z2 := Tryz.sizeOf2
 v2 := Tryz.zeroValue2
 t3 := Tryz.underlying3
 a3 := Tryz.isAgg3
 z3 := Tryz.sizeOf3
 v3 := Tryz.zeroValue3
 t4 := Tryz.underlying4
 a4 := Tryz.isAgg4
 z4 := Tryz.sizeOf4
 v4 := Tryz.zeroValue4
 t5 := Tryz.underlying5
 a5 := Tryz.isAgg5
 z5 := Tryz.sizeOf5
 v5 := Tryz.zeroValue5
 t9 := Tryz.underlying9
 a9 := Tryz.isAgg9
 z9 := Tryz.sizeOf9
 v9 := Tryz.zeroValue9
 t20 := Tryz.underlying20
 a20 := Tryz.isAgg20
 z20 := Tryz.sizeOf20
 v20 := Tryz.zeroValue20
 t37 := Tryz.underlying27
 a37 := Tryz.isAgg27
 z37 := Tryz.sizeOf27
 v37 := Tryz.zeroValue27
 t46 := Tryz.underlying151
 a46 := Tryz.isAgg151
 z46 := Tryz.sizeOf151
 v46 := Tryz.zeroValue151
 t51 := Tryz.underlying24
 a51 := Tryz.isAgg24
 z51 := Tryz.sizeOf24
 v51 := Tryz.zeroValue24
 t53 := Tryz.underlying72
 a53 := Tryz.isAgg72
 z53 := Tryz.sizeOf72
 v53 := Tryz.zeroValue72
 t171 := Tryz.underlying132
 a171 := Tryz.isAgg132
 z171 := Tryz.sizeOf132
 v171 := Tryz.zeroValue132
 t173 := Tryz.underlying135
 a173 := Tryz.isAgg135
 z173 := Tryz.sizeOf135
 v173 := Tryz.zeroValue135
 t212 := Tryz.underlying149
 a212 := Tryz.isAgg149
 z212 := Tryz.sizeOf149
 v212 := Tryz.zeroValue149
 t213 := Tryz.underlying150
 a213 := Tryz.isAgg150
 z213 := Tryz.sizeOf150
 t232 := Tryz.underlying161
 a232 := Tryz.isAgg161
 z232 := Tryz.sizeOf161
 v232 := Tryz.zeroValue161
 t233 := Tryz.underlying162
 a233 := Tryz.isAgg162
 z233 := Tryz.sizeOf162
 v233 := Tryz.zeroValue162
 g17 := by kernel_rfl
 g18 := by kernel_rfl
 g19 := by kernel_rfl
 i0 := by kernel_rfl
 i2 := by kernel_rfl
 i3 := by kernel_rfl
 i4 := by kernel_rfl
 i5 := by kernel_rfl
 i9 := by kernel_rfl
 i20 := by kernel_rfl
 i37 := by kernel_rfl
 i46 := by kernel_rfl
 i51 := by kernel_rfl
 i53 := by kernel_rfl
 i171 := by kernel_rfl
 i173 := by kernel_rfl
 i212 := by kernel_rfl
 i232 := by kernel_rfl
 i233 := by kernel_rfl
 m17 := by kernel_rfl
 m18 := by kernel_rfl
 m19 := by kernel_rfl }
open Go.RowKit Go.Sort Go.Lib in
theorem Tryz.strconv_Itoa (n : Int) (h0 : -9223372036854775808 <= n) (h1 : n <= 9223372036854775807) (w : World) (htab : Lib.TabIs Tryz.prog w "internal/strconv.uint64pow10" .u64 Lib.pow10Tab) :
  Calls Tryz.prog 80 #[.int .i64 n] w fun e w' => e = .returned (.string ⟨(Lib.itoa n).toArray⟩) /\ ∃ k os, w' = grow (w.drewN k) os := Any.strconv_Itoa Tryz.laysM171 n h0 h1 w htab
def Tryz.lays171_ren : Go.Shelf.Ren := ⟨fun | 171 => 80 | 243 => 112 | 246 => 133 | 283 => 108 | 284 => 109 | 285 => 110 | 286 => 111 | 129 => 129 | 317 => 128 | 318 => 130 | 319 => 131 | 320 => 132 | 337 => 138 | 338 => 139 | n => n, fun | 3 => 3 | 9 => 9 | 2 => 2 | 4 => 4 | 171 => 132 | 0 => 0 | 53 => 72 | 37 => 27 | 5 => 5 | 173 => 135 | 212 => 149 | 51 => 24 | 20 => 20 | 213 => 150 | 46 => 151 | 232 => 161 | 233 => 162 | n => n, fun | 17 => 1 | 18 => 2 | 19 => 3 | n => n⟩
def Tryz.lays217_ren : Go.Shelf.Ren := ⟨fun | 217 => 127 | 266 => 137 | n => n, fun | 9 => 9 | 5 => 5 | 3 => 3 | n => n, fun | n => n⟩
def Tryz.laysNm237_ren : Go.Shelf.Ren := ⟨fun | 37 => 66 | n => n, fun | 3 => 3 | 4 => 4 | n => n, fun | n => n⟩
end Go.Proofs
