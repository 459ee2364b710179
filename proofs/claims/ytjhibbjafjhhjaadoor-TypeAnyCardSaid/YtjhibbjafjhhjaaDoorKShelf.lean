/-
  DERIVED: THE SHELF's CONTRACTS AT THIS DUMP, IN PLAIN WORDS (tools/lay-plain.mjs out of 'TrydShelf.lean', which tools/lay-shelf.mjs wrote): THE SAME DECLARATIONS UNDER THE SAME NAMES: 'import', 'namespace', 'open', 'def', 'theorem' AND NOTHING ELSE: no command of the shelf's: FOR A HAND-IN. Each laying: the table of numbers ('.._ren') and one theorem, a field a fact of the dump's own or the kernel's comparison; each contract: ONE APPLICATION.
-/
import Derived.Shelf.Strings.Builder1
import Derived.Shelf.Strings.Builder2
import Derived.Shelf.Strings.OnBuilder
import Derived.Shelf.Strings.Trim
import Derived.Shelf.Small.Utf8
import Derived.Shelf.Small.Strs
import Derived.Shelf.Small.Wraps
import Derived.Shelf.Strings.BuilderF
import Derived.Shelf.Strings.BuilderK
import Derived.Shelf.Strings.Builder2Cap
import Derived.Shelf.Strconv.Itoa0
import Derived.Shelf.Strconv.Itoa1
import Derived.Shelf.LaysM
import Derived.Shelf.Strconv.Itoa2
import Derived.Shelf.Strconv.Itoa3
import Derived.Ground.MpProg
import Derived.Shelf.Pu.ParseUintPublic10
import Derived.Shelf.Strings.Search1
import Derived.Shelf.Strings.Prefix
import Derived.Shelf.Strings.Runes
import Derived.Shelf.Strings.AsciiSet
import Derived.Shelf.Unicode.DecodeSlow
import Derived.Shelf.Strings.BuilderCap
import Derived.Test.YtjhibbjafjhhjaaDoorProg
namespace Go.Proofs
open Go.Shelf
def Tryd.lays169_ren : Go.Shelf.Ren := ⟨fun | 169 => 30 | n => n, fun | 70 => 66 | 9 => 9 | 0 => 0 | 72 => 69 | 37 => 67 | 127 => 100 | 3 => 3 | 5 => 5 | n => n, fun | n => n⟩
def Tryd.lays241_ren : Go.Shelf.Ren := ⟨fun | 241 => 67 | 277 => 97 | n => n, fun | 70 => 66 | 3 => 3 | 0 => 0 | 72 => 69 | 37 => 67 | 5 => 5 | n => n, fun | n => n⟩
def Tryd.lays165_ren : Go.Shelf.Ren := ⟨fun | 165 => 55 | 240 => 57 | 241 => 67 | 276 => 70 | 277 => 97 | n => n, fun | 70 => 66 | 3 => 3 | 0 => 0 | 4 => 4 | 9 => 9 | 20 => 20 | 72 => 69 | 37 => 67 | 164 => 117 | 5 => 5 | n => n, fun | n => n⟩
def Tryd.lays156_ren : Go.Shelf.Ren := ⟨fun | 156 => 22 | 165 => 55 | 166 => 29 | 169 => 30 | 240 => 57 | 241 => 67 | 276 => 70 | 277 => 97 | n => n, fun | 31 => 35 | 9 => 9 | 3 => 3 | 4 => 4 | 0 => 0 | 20 => 20 | 72 => 69 | 76 => 72 | 70 => 66 | 37 => 67 | 75 => 71 | 127 => 100 | 164 => 117 | 5 => 5 | 80 => 74 | n => n, fun | n => n⟩
def Tryd.lays231_ren : Go.Shelf.Ren := ⟨fun | 231 => 73 | n => n, fun | 9 => 9 | 5 => 5 | 3 => 3 | 4 => 4 | n => n, fun | n => n⟩
def Tryd.lays232_ren : Go.Shelf.Ren := ⟨fun | 232 => 74 | n => n, fun | 9 => 9 | 5 => 5 | 3 => 3 | 4 => 4 | n => n, fun | n => n⟩
def Tryd.lays160_ren : Go.Shelf.Ren := ⟨fun | 160 => 60 | 232 => 74 | 231 => 73 | 227 => 75 | 234 => 77 | 233 => 76 | 236 => 79 | 235 => 78 | 228 => 98 | 271 => 101 | 151 => 100 | 197 => 99 | 120 => 121 | 152 => 120 | 260 => 119 | 137 => 95 | 119 => 130 | 224 => 131 | 225 => 132 | 217 => 118 | 266 => 129 | n => n, fun | 9 => 9 | 4 => 4 | 3 => 3 | 5 => 5 | 117 => 124 | 116 => 123 | 0 => 0 | 124 => 127 | 21 => 21 | 105 => 144 | 46 => 112 | 119 => 173 | 139 => 176 | 138 => 175 | n => n, fun | 3 => 4 | 4 => 5 | n => n⟩
theorem Tryd.lays160 : Go.Proofs.Lays.n160 Tryd.prog Tryd.lays160_ren := {
 mixed := by kernel_rfl
 f119 := Tryd.func130.trans (congrArg some (by kernel_rfl))
 f120 := Tryd.func121.trans (congrArg some (by kernel_rfl))
 f137 := Tryd.func95.trans (congrArg some (by kernel_rfl))
 f151 := Tryd.func100.trans (congrArg some (by kernel_rfl))
 f152 := Tryd.func120.trans (congrArg some (by kernel_rfl))
 f160 := Tryd.func60.trans (congrArg some (by kernel_rfl))
 f197 := Tryd.func99.trans (congrArg some (by kernel_rfl))
 f217 := Tryd.func118.trans (congrArg some (by kernel_rfl))
 f224 := Tryd.func131.trans (congrArg some (by kernel_rfl))
 f225 := Tryd.func132.trans (congrArg some (by kernel_rfl))
 f227 := Tryd.func75.trans (congrArg some (by kernel_rfl))
 f228 := Tryd.func98.trans (congrArg some (by kernel_rfl))
 f231 := Tryd.func73.trans (congrArg some (by kernel_rfl))
 f232 := Tryd.func74.trans (congrArg some (by kernel_rfl))
 f233 := Tryd.func76.trans (congrArg some (by kernel_rfl))
 f234 := Tryd.func77.trans (congrArg some (by kernel_rfl))
 f235 := Tryd.func78.trans (congrArg some (by kernel_rfl))
 f236 := Tryd.func79.trans (congrArg some (by kernel_rfl))
 f260 := Tryd.func119.trans (congrArg some (by kernel_rfl))
 f266 := Tryd.func129.trans (congrArg some (by kernel_rfl))
 f271 := Tryd.func101.trans (congrArg some (by kernel_rfl))
 t0 := Tryd.underlying0
 a0 := Tryd.isAgg0
 z0 := Tryd.sizeOf0
 v0 := Tryd.zeroValue0
 t3 := Tryd.underlying3
 a3 := Tryd.isAgg3
 z3 := Tryd.sizeOf3
 v3 := Tryd.zeroValue3
 t4 := Tryd.underlying4
 a4 := Tryd.isAgg4
 z4 := Tryd.sizeOf4
 v4 := Tryd.zeroValue4
 t5 := Tryd.underlying5
 a5 := Tryd.isAgg5
 z5 := Tryd.sizeOf5
 v5 := Tryd.zeroValue5
 t9 := Tryd.underlying9
 a9 := Tryd.isAgg9
 z9 := Tryd.sizeOf9
 v9 := Tryd.zeroValue9
 t21 := Tryd.underlying21
 a21 := Tryd.isAgg21
 z21 := Tryd.sizeOf21
 v21 := Tryd.zeroValue21
 t46 := Tryd.underlying112
 a46 := Tryd.isAgg112
 z46 := Tryd.sizeOf112
 v46 := Tryd.zeroValue112
 t105 := Tryd.underlying144
 a105 := Tryd.isAgg144
 z105 := Tryd.sizeOf144
 v105 := Tryd.zeroValue144
 t116 := Tryd.underlying123
 a116 := Tryd.isAgg123
 z116 := Tryd.sizeOf123
 t117 := Tryd.underlying124
 a117 := Tryd.isAgg124
 z117 := Tryd.sizeOf124
 v117 := Tryd.zeroValue124
 t119 := Tryd.underlying173
 a119 := Tryd.isAgg173
 z119 := Tryd.sizeOf173
 t124 := Tryd.underlying127
 a124 := Tryd.isAgg127
 z124 := Tryd.sizeOf127
 v124 := Tryd.zeroValue127
 t138 := Tryd.underlying175
 a138 := Tryd.isAgg175
 z138 := Tryd.sizeOf175
 v138 := Tryd.zeroValue175
 t139 := Tryd.underlying176
 a139 := Tryd.isAgg176
 z139 := Tryd.sizeOf176
 v139 := Tryd.zeroValue176
 g3 := by kernel_rfl
 g4 := by kernel_rfl }
def Tryd.lays119_ren : Go.Shelf.Ren := ⟨fun | 119 => 130 | n => n, fun | 21 => 21 | 4 => 4 | n => n, fun | n => n⟩
def Tryd.lays120_ren : Go.Shelf.Ren := ⟨fun | 120 => 121 | n => n, fun | 5 => 5 | 4 => 4 | n => n, fun | n => n⟩
def Tryd.lays137_ren : Go.Shelf.Ren := ⟨fun | 137 => 95 | 217 => 118 | 266 => 129 | n => n, fun | 9 => 9 | 5 => 5 | 3 => 3 | n => n, fun | n => n⟩
def Tryd.lays210_ren : Go.Shelf.Ren := ⟨fun | 210 => 59 | 206 => 72 | n => n, fun | 9 => 9 | 4 => 4 | 3 => 3 | n => n, fun | n => n⟩
def Tryd.lays103_ren : Go.Shelf.Ren := ⟨fun | 103 => 34 | 210 => 59 | 206 => 72 | n => n, fun | 9 => 9 | 4 => 4 | 24 => 80 | 3 => 3 | n => n, fun | n => n⟩
theorem Tryd.lays103 : Go.Proofs.Lays.n103 Tryd.prog Tryd.lays103_ren := {
 mixed := by kernel_rfl
 f103 := Tryd.func34.trans (congrArg some (by kernel_rfl))
 f206 := Tryd.func72.trans (congrArg some (by kernel_rfl))
 f210 := Tryd.func59.trans (congrArg some (by kernel_rfl))
 t3 := Tryd.underlying3
 a3 := Tryd.isAgg3
 z3 := Tryd.sizeOf3
 v3 := Tryd.zeroValue3
 t4 := Tryd.underlying4
 a4 := Tryd.isAgg4
 z4 := Tryd.sizeOf4
 v4 := Tryd.zeroValue4
 t9 := Tryd.underlying9
 a9 := Tryd.isAgg9
 z9 := Tryd.sizeOf9
 v9 := Tryd.zeroValue9
 t24 := Tryd.underlying80
 a24 := Tryd.isAgg80
 z24 := Tryd.sizeOf80
 v24 := Tryd.zeroValue80 }
open Go.RowKit in
theorem Tryd.strings_CutPrefix (s p : ByteArray) (w : World) :
  Calls Tryd.prog 34 #[.string s, .string p] w fun e w' => e = .returned (.tuple #[.string ⟨(Lib.trimPrefix s.data.toList p.data.toList).toArray⟩, .bool (Lib.hasPrefix s.data.toList p.data.toList)]) /\ w' = w := Any.strings_CutPrefix Tryd.lays103 s p w
def Tryd.lays215_ren : Go.Shelf.Ren := ⟨fun | 215 => 117 | n => n, fun | 3 => 3 | 4 => 4 | n => n, fun | n => n⟩
def Tryd.lays129_ren : Go.Shelf.Ren := ⟨fun | 129 => 93 | n => n, fun | 53 => 82 | 3 => 3 | 4 => 4 | 46 => 112 | 5 => 5 | 9 => 9 | n => n, fun | n => n⟩
def Tryd.lays317_ren : Go.Shelf.Ren := ⟨fun | 317 => 124 | n => n, fun | 3 => 3 | 46 => 112 | n => n, fun | n => n⟩
def Tryd.lays318_ren : Go.Shelf.Ren := ⟨fun | 318 => 125 | n => n, fun | 3 => 3 | 4 => 4 | n => n, fun | n => n⟩
def Tryd.lays283_ren : Go.Shelf.Ren := ⟨fun | 283 => 108 | n => n, fun | 3 => 3 | 9 => 9 | 4 => 4 | n => n, fun | n => n⟩
def Tryd.laysM284_ren : Go.Shelf.Ren := ⟨fun | 284 => 109 | 129 => 93 | 317 => 124 | 318 => 125 | n => n, fun | 53 => 82 | 3 => 3 | 212 => 169 | 0 => 0 | 4 => 4 | 46 => 112 | 5 => 5 | 9 => 9 | n => n, fun | 17 => 3 | n => n⟩
def Tryd.lays285_ren : Go.Shelf.Ren := ⟨fun | 285 => 110 | n => n, fun | 37 => 67 | 53 => 82 | 3 => 3 | 4 => 4 | 51 => 139 | 9 => 9 | 5 => 5 | 0 => 0 | n => n, fun | n => n⟩
def Tryd.laysM246_ren : Go.Shelf.Ren := ⟨fun | 246 => 82 | 283 => 108 | 284 => 109 | 285 => 110 | 286 => 111 | 129 => 93 | 317 => 124 | 318 => 125 | 319 => 126 | 320 => 127 | 337 => 133 | 338 => 134 | n => n, fun | 2 => 2 | 3 => 3 | 9 => 9 | 4 => 4 | 171 => 153 | 0 => 0 | 53 => 82 | 37 => 67 | 5 => 5 | 173 => 155 | 212 => 169 | 51 => 139 | 20 => 20 | 213 => 170 | 46 => 112 | 232 => 182 | 233 => 183 | n => n, fun | 17 => 3 | 18 => 6 | 19 => 7 | n => n⟩
def Tryd.lays246_ren : Go.Shelf.Ren := ⟨fun | 246 => 82 | 283 => 108 | 284 => 109 | 285 => 110 | 286 => 111 | 129 => 93 | 317 => 124 | 318 => 125 | 319 => 126 | 320 => 127 | 337 => 133 | 338 => 134 | n => n, fun | 2 => 2 | 3 => 3 | 9 => 9 | 4 => 4 | 171 => 153 | 0 => 0 | 53 => 82 | 37 => 67 | 5 => 5 | 173 => 155 | 212 => 169 | 51 => 139 | 20 => 20 | 213 => 170 | 46 => 112 | 232 => 182 | 233 => 183 | n => n, fun | 17 => 3 | 18 => 6 | 19 => 7 | n => n⟩
def Tryd.laysM243_ren : Go.Shelf.Ren := ⟨fun | 243 => 63 | 246 => 82 | 283 => 108 | 284 => 109 | 285 => 110 | 286 => 111 | 129 => 93 | 317 => 124 | 318 => 125 | 319 => 126 | 320 => 127 | 337 => 133 | 338 => 134 | n => n, fun | 3 => 3 | 9 => 9 | 2 => 2 | 4 => 4 | 171 => 153 | 0 => 0 | 53 => 82 | 37 => 67 | 5 => 5 | 173 => 155 | 212 => 169 | 51 => 139 | 20 => 20 | 213 => 170 | 46 => 112 | 232 => 182 | 233 => 183 | n => n, fun | 17 => 3 | 18 => 6 | 19 => 7 | n => n⟩
def Tryd.lays243_ren : Go.Shelf.Ren := ⟨fun | 243 => 63 | 246 => 82 | 283 => 108 | 284 => 109 | 285 => 110 | 286 => 111 | 129 => 93 | 317 => 124 | 318 => 125 | 319 => 126 | 320 => 127 | 337 => 133 | 338 => 134 | n => n, fun | 3 => 3 | 9 => 9 | 2 => 2 | 4 => 4 | 171 => 153 | 0 => 0 | 53 => 82 | 37 => 67 | 5 => 5 | 173 => 155 | 212 => 169 | 51 => 139 | 20 => 20 | 213 => 170 | 46 => 112 | 232 => 182 | 233 => 183 | n => n, fun | 17 => 3 | 18 => 6 | 19 => 7 | n => n⟩
def Tryd.laysM171_ren : Go.Shelf.Ren := ⟨fun | 171 => 41 | 243 => 63 | 246 => 82 | 283 => 108 | 284 => 109 | 285 => 110 | 286 => 111 | 129 => 93 | 317 => 124 | 318 => 125 | 319 => 126 | 320 => 127 | 337 => 133 | 338 => 134 | n => n, fun | 3 => 3 | 9 => 9 | 2 => 2 | 4 => 4 | 171 => 153 | 0 => 0 | 53 => 82 | 37 => 67 | 5 => 5 | 173 => 155 | 212 => 169 | 51 => 139 | 20 => 20 | 213 => 170 | 46 => 112 | 232 => 182 | 233 => 183 | n => n, fun | 17 => 3 | 18 => 6 | 19 => 7 | n => n⟩
theorem Tryd.laysM171 : Go.Proofs.LaysM.n171 Tryd.prog Tryd.laysM171_ren := {
 mixed := by kernel_rfl
 f129 := Tryd.func93.trans (congrArg some (by kernel_rfl))
 f171 := Tryd.func41.trans (congrArg some (by kernel_rfl))
 f243 := Tryd.func63.trans (congrArg some (by kernel_rfl))
 f246 := Tryd.func82.trans (congrArg some (by kernel_rfl))
 f283 := Tryd.func108.trans (congrArg some (by kernel_rfl))
 f284 := Tryd.func109.trans (congrArg some (by kernel_rfl))
 f285 := Tryd.func110.trans (congrArg some (by kernel_rfl))
 f286 := Tryd.func111.trans (congrArg some (by kernel_rfl))
 f317 := Tryd.func124.trans (congrArg some (by kernel_rfl))
 f318 := Tryd.func125.trans (congrArg some (by kernel_rfl))
 f319 := Tryd.func126.trans (congrArg some (by kernel_rfl))
 f320 := Tryd.func127.trans (congrArg some (by kernel_rfl))
 f337 := Tryd.func133.trans (congrArg some (by kernel_rfl))
 f338 := Tryd.func134.trans (congrArg some (by kernel_rfl))
 t0 := Tryd.underlying0
 a0 := Tryd.isAgg0
 z0 := Tryd.sizeOf0
 v0 := Tryd.zeroValue0
 t2 := Tryd.underlying2
 a2 := Tryd.isAgg2
 z2 := Tryd.sizeOf2
 v2 := Tryd.zeroValue2
 t3 := Tryd.underlying3
 a3 := Tryd.isAgg3
 z3 := Tryd.sizeOf3
 v3 := Tryd.zeroValue3
 t4 := Tryd.underlying4
 a4 := Tryd.isAgg4
 z4 := Tryd.sizeOf4
 v4 := Tryd.zeroValue4
 t5 := Tryd.underlying5
 a5 := Tryd.isAgg5
 z5 := Tryd.sizeOf5
 v5 := Tryd.zeroValue5
 t9 := Tryd.underlying9
 a9 := Tryd.isAgg9
 z9 := Tryd.sizeOf9
 v9 := Tryd.zeroValue9
 t20 := Tryd.underlying20
 a20 := Tryd.isAgg20
 z20 := Tryd.sizeOf20
 v20 := Tryd.zeroValue20
 t37 := Tryd.underlying67
 a37 := Tryd.isAgg67
 z37 := Tryd.sizeOf67
 v37 := Tryd.zeroValue67
 t46 := Tryd.underlying112
 a46 := Tryd.isAgg112
 z46 := Tryd.sizeOf112
 v46 := Tryd.zeroValue112
 t51 := Tryd.underlying139
 a51 := Tryd.isAgg139
 z51 := Tryd.sizeOf139
 v51 := Tryd.zeroValue139
 t53 := Tryd.underlying82
 a53 := Tryd.isAgg82
 z53 := Tryd.sizeOf82
 v53 := Tryd.zeroValue82
 t171 := Tryd.underlying153
 a171 := Tryd.isAgg153
 z171 := Tryd.sizeOf153
 v171 := Tryd.zeroValue153
 t173 := Tryd.underlying155
 a173 := Tryd.isAgg155
 z173 := Tryd.sizeOf155
 v173 := Tryd.zeroValue155
 t212 := Tryd.underlying169
 a212 := Tryd.isAgg169
 z212 := Tryd.sizeOf169
 v212 := Tryd.zeroValue169
 t213 := Tryd.underlying170
 a213 := Tryd.isAgg170
 z213 := Tryd.sizeOf170
 t232 := Tryd.underlying182
 a232 := Tryd.isAgg182
 z232 := Tryd.sizeOf182
 v232 := Tryd.zeroValue182
 t233 := Tryd.underlying183
 a233 := Tryd.isAgg183
 z233 := Tryd.sizeOf183
 v233 := Tryd.zeroValue183
 g17 := by kernel_rfl
 g18 := by kernel_rfl
 g19 := by kernel_rfl
 i0 := by kernel_rfl
 i2 := by kernel_rfl
 i3 := by kernel_rfl
 i4 := by kernel_rfl
 i5 := by kernel_rfl
 i9 := by kernel_rfl
 i20 := by kernel_rfl
 i37 := by kernel_rfl
 i46 := by kernel_rfl
 i51 := by kernel_rfl
 i53 := by kernel_rfl
 i171 := by kernel_rfl
 i173 := by kernel_rfl
 i212 := by kernel_rfl
 i232 := by kernel_rfl
 i233 := by kernel_rfl
 m17 := by kernel_rfl
 m18 := by kernel_rfl
 m19 := by kernel_rfl }
open Go.RowKit Go.Sort Go.Lib in
theorem Tryd.strconv_Itoa (n : Int) (h0 : -9223372036854775808 <= n) (h1 : n <= 9223372036854775807) (w : World) (htab : Lib.TabIs Tryd.prog w "internal/strconv.uint64pow10" .u64 Lib.pow10Tab) :
  Calls Tryd.prog 41 #[.int .i64 n] w fun e w' => e = .returned (.string ⟨(Lib.itoa n).toArray⟩) /\ ∃ k os, w' = grow (w.drewN k) os := Any.strconv_Itoa Tryd.laysM171 n h0 h1 w htab
def Tryd.lays171_ren : Go.Shelf.Ren := ⟨fun | 171 => 41 | 243 => 63 | 246 => 82 | 283 => 108 | 284 => 109 | 285 => 110 | 286 => 111 | 129 => 93 | 317 => 124 | 318 => 125 | 319 => 126 | 320 => 127 | 337 => 133 | 338 => 134 | n => n, fun | 3 => 3 | 9 => 9 | 2 => 2 | 4 => 4 | 171 => 153 | 0 => 0 | 53 => 82 | 37 => 67 | 5 => 5 | 173 => 155 | 212 => 169 | 51 => 139 | 20 => 20 | 213 => 170 | 46 => 112 | 232 => 182 | 233 => 183 | n => n, fun | 17 => 3 | 18 => 6 | 19 => 7 | n => n⟩
def Tryd.laysPu14_ren : Go.Shelf.Ren := ⟨fun | 14 => 61 | 16 => 80 | 17 => 81 | 19 => 102 | 20 => 103 | 21 => 104 | 22 => 105 | 23 => 106 | 24 => 107 | 25 => 122 | 27 => 41 | 26 => 123 | 28 => 63 | 29 => 82 | 30 => 108 | 31 => 109 | 32 => 110 | 33 => 111 | 35 => 93 | 34 => 124 | 36 => 125 | 37 => 126 | 38 => 127 | 39 => 133 | 40 => 134 | n => n, fun | 9 => 9 | 3 => 3 | 22 => 82 | 24 => 71 | 25 => 107 | 4 => 4 | 34 => 147 | 5 => 5 | 36 => 112 | 37 => 67 | 0 => 0 | 39 => 150 | 21 => 21 | 44 => 165 | 47 => 100 | 50 => 181 | 48 => 179 | 2 => 2 | 52 => 153 | 55 => 155 | 59 => 169 | 60 => 139 | 20 => 20 | 61 => 170 | 65 => 182 | 66 => 183 | 67 => 74 | n => n, fun | 0 => 1 | 1 => 2 | 2 => 3 | 3 => 6 | 4 => 7 | n => n⟩
theorem Tryd.laysPu14 : Go.Proofs.LaysPu.n14 Tryd.prog Tryd.laysPu14_ren := {
 mixed := by kernel_rfl
 f14 := Tryd.func61.trans (congrArg some (by kernel_rfl))
 f16 := Tryd.func80.trans (congrArg some (by kernel_rfl))
 f17 := Tryd.func81.trans (congrArg some (by kernel_rfl))
 f19 := Tryd.func102.trans (congrArg some (by kernel_rfl))
 f20 := Tryd.func103.trans (congrArg some (by kernel_rfl))
 f21 := Tryd.func104.trans (congrArg some (by kernel_rfl))
 f22 := Tryd.func105.trans (congrArg some (by kernel_rfl))
 f23 := Tryd.func106.trans (congrArg some (by kernel_rfl))
 f24 := Tryd.func107.trans (congrArg some (by kernel_rfl))
 f25 := Tryd.func122.trans (congrArg some (by kernel_rfl))
 f26 := Tryd.func123.trans (congrArg some (by kernel_rfl))
 f27 := Tryd.func41.trans (congrArg some (by kernel_rfl))
 f28 := Tryd.func63.trans (congrArg some (by kernel_rfl))
 f29 := Tryd.func82.trans (congrArg some (by kernel_rfl))
 f30 := Tryd.func108.trans (congrArg some (by kernel_rfl))
 f31 := Tryd.func109.trans (congrArg some (by kernel_rfl))
 f32 := Tryd.func110.trans (congrArg some (by kernel_rfl))
 f33 := Tryd.func111.trans (congrArg some (by kernel_rfl))
 f34 := Tryd.func124.trans (congrArg some (by kernel_rfl))
 f35 := Tryd.func93.trans (congrArg some (by kernel_rfl))
 f36 := Tryd.func125.trans (congrArg some (by kernel_rfl))
 f37 := Tryd.func126.trans (congrArg some (by kernel_rfl))
 f38 := Tryd.func127.trans (congrArg some (by kernel_rfl))
 f39 := Tryd.func133.trans (congrArg some (by kernel_rfl))
 f40 := Tryd.func134.trans (congrArg some (by kernel_rfl))
 t0 := Tryd.underlying0
 a0 := Tryd.isAgg0
 z0 := Tryd.sizeOf0
 v0 := Tryd.zeroValue0
 i0 := by kernel_rfl
 t2 := Tryd.underlying2
 a2 := Tryd.isAgg2
 z2 := Tryd.sizeOf2
 v2 := Tryd.zeroValue2
 i2 := by kernel_rfl
 t3 := Tryd.underlying3
 a3 := Tryd.isAgg3
 z3 := Tryd.sizeOf3
 v3 := Tryd.zeroValue3
 i3 := by kernel_rfl
 t4 := Tryd.underlying4
 a4 := Tryd.isAgg4
 z4 := Tryd.sizeOf4
 v4 := Tryd.zeroValue4
 i4 := by kernel_rfl
 t5 := Tryd.underlying5
 a5 := Tryd.isAgg5
 z5 := Tryd.sizeOf5
 v5 := Tryd.zeroValue5
 i5 := by kernel_rfl
 t9 := Tryd.underlying9
 a9 := Tryd.isAgg9
 z9 := Tryd.sizeOf9
 v9 := Tryd.zeroValue9
 i9 := by kernel_rfl
 t20 := Tryd.underlying20
 a20 := Tryd.isAgg20
 z20 := Tryd.sizeOf20
 v20 := Tryd.zeroValue20
 i20 := by kernel_rfl
 t21 := Tryd.underlying21
 a21 := Tryd.isAgg21
 z21 := Tryd.sizeOf21
 v21 := Tryd.zeroValue21
 i21 := by kernel_rfl
 t22 := Tryd.underlying82
 a22 := Tryd.isAgg82
 z22 := Tryd.sizeOf82
 v22 := Tryd.zeroValue82
 i22 := by kernel_rfl
 t24 := Tryd.underlying71
 a24 := Tryd.isAgg71
 z24 := Tryd.sizeOf71
 v24 := Tryd.zeroValue71
 i24 := by kernel_rfl
 t25 := Tryd.underlying107
 a25 := Tryd.isAgg107
 z25 := Tryd.sizeOf107
 v25 := Tryd.zeroValue107
 i25 := by kernel_rfl
 t34 := Tryd.underlying147
 a34 := Tryd.isAgg147
 z34 := Tryd.sizeOf147
 v34 := Tryd.zeroValue147
 i34 := by kernel_rfl
 c34 := by kernel_rfl
 t36 := Tryd.underlying112
 a36 := Tryd.isAgg112
 z36 := Tryd.sizeOf112
 v36 := Tryd.zeroValue112
 i36 := by kernel_rfl
 t37 := Tryd.underlying67
 a37 := Tryd.isAgg67
 z37 := Tryd.sizeOf67
 v37 := Tryd.zeroValue67
 i37 := by kernel_rfl
 t39 := Tryd.underlying150
 a39 := Tryd.isAgg150
 z39 := Tryd.sizeOf150
 v39 := Tryd.zeroValue150
 i39 := by kernel_rfl
 t44 := Tryd.underlying165
 a44 := Tryd.isAgg165
 z44 := Tryd.sizeOf165
 v44 := Tryd.zeroValue165
 i44 := by kernel_rfl
 t47 := Tryd.underlying100
 a47 := Tryd.isAgg100
 z47 := Tryd.sizeOf100
 v47 := Tryd.zeroValue100
 i47 := by kernel_rfl
 t48 := Tryd.underlying179
 a48 := Tryd.isAgg179
 z48 := Tryd.sizeOf179
 v48 := Tryd.zeroValue179
 i48 := by kernel_rfl
 t50 := Tryd.underlying181
 a50 := Tryd.isAgg181
 z50 := Tryd.sizeOf181
 v50 := Tryd.zeroValue181
 i50 := by kernel_rfl
 t52 := Tryd.underlying153
 a52 := Tryd.isAgg153
 z52 := Tryd.sizeOf153
 v52 := Tryd.zeroValue153
 i52 := by kernel_rfl
 t55 := Tryd.underlying155
 a55 := Tryd.isAgg155
 z55 := Tryd.sizeOf155
 v55 := Tryd.zeroValue155
 i55 := by kernel_rfl
 t59 := Tryd.underlying169
 a59 := Tryd.isAgg169
 z59 := Tryd.sizeOf169
 v59 := Tryd.zeroValue169
 i59 := by kernel_rfl
 t60 := Tryd.underlying139
 a60 := Tryd.isAgg139
 z60 := Tryd.sizeOf139
 v60 := Tryd.zeroValue139
 i60 := by kernel_rfl
 t61 := Tryd.underlying170
 a61 := Tryd.isAgg170
 z61 := Tryd.sizeOf170
 t65 := Tryd.underlying182
 a65 := Tryd.isAgg182
 z65 := Tryd.sizeOf182
 v65 := Tryd.zeroValue182
 i65 := by kernel_rfl
 t66 := Tryd.underlying183
 a66 := Tryd.isAgg183
 z66 := Tryd.sizeOf183
 v66 := Tryd.zeroValue183
 i66 := by kernel_rfl
 t67 := Tryd.underlying74
 a67 := Tryd.isAgg74
 z67 := Tryd.sizeOf74
 v67 := Tryd.zeroValue74
 i67 := by kernel_rfl
 g0 := by kernel_rfl
 m0 := by kernel_rfl
 g1 := by kernel_rfl
 m1 := by kernel_rfl
 g2 := by kernel_rfl
 m2 := by kernel_rfl
 g3 := by kernel_rfl
 m3 := by kernel_rfl
 g4 := by kernel_rfl
 m4 := by kernel_rfl }
open Go.RowKit in
theorem Tryd.strconv_ParseUint_10_at64_ok (s : ByteArray) (hmax : s.size <= 9223372036854775806) (u : Nat) (h : Lib.parseUintB 64 s.data.toList = .ok u) (w : World) :
  Calls Tryd.prog 61 #[.string s, .int .i64 10, .int .i64 64] w fun e w' => e = .returned (.tuple #[.int .u64 u, .nilIface]) /\ (w' = w \/ w' = Lib.bytesWorld w 5 s) := Any.strconv_ParseUint_10_at64_ok Tryd.laysPu14 s hmax u h w
open Go.RowKit in
theorem Tryd.strconv_ParseUint_10_at64_range (s : ByteArray) (hlim : s.size <= 281474976710656) (h : Lib.parseUintB 64 s.data.toList = .range) (ev : Value) (w : World) (hv : w.cell? ⟨2, 0, none⟩ = some ev) (hev : ev = .nilIface \/ ∃ te pe, ev = .iface te pe) :
  Calls Tryd.prog 61 #[.string s, .int .i64 10, .int .i64 64] w fun e w' => ∃ N, e = .returned (.tuple #[.int .u64 18446744073709551615, .iface 150 (.pointer (some ⟨N, 0, none⟩))]) /\ w.heap.size <= N /\ w'.heap[N]? = some (.cells #[.string ⟨#[80, 97, 114, 115, 101, 85, 105, 110, 116]⟩, .string s, ev] 165 (0, 0)) /\ Below w.heap.size w w' := Any.strconv_ParseUint_10_at64_range Tryd.laysPu14 s hlim h ev w hv hev
def Tryd.lays217_ren : Go.Shelf.Ren := ⟨fun | 217 => 118 | 266 => 129 | n => n, fun | 9 => 9 | 5 => 5 | 3 => 3 | n => n, fun | n => n⟩
def Tryd.lays224_ren : Go.Shelf.Ren := ⟨fun | 224 => 131 | n => n, fun | 3 => 3 | n => n, fun | n => n⟩
def Tryd.lays206_ren : Go.Shelf.Ren := ⟨fun | 206 => 72 | n => n, fun | 9 => 9 | 4 => 4 | 3 => 3 | n => n, fun | n => n⟩
def Tryd.lays152_ren : Go.Shelf.Ren := ⟨fun | 152 => 120 | 137 => 95 | 119 => 130 | 224 => 131 | 225 => 132 | 217 => 118 | 266 => 129 | n => n, fun | 9 => 9 | 21 => 21 | 3 => 3 | 4 => 4 | 5 => 5 | 0 => 0 | 46 => 112 | n => n, fun | n => n⟩
def Tryd.lays151_ren : Go.Shelf.Ren := ⟨fun | 151 => 100 | 152 => 120 | 137 => 95 | 119 => 130 | 224 => 131 | 225 => 132 | 217 => 118 | 266 => 129 | n => n, fun | 9 => 9 | 21 => 21 | 4 => 4 | 3 => 3 | 5 => 5 | 0 => 0 | 46 => 112 | n => n, fun | n => n⟩
def Tryd.lays227_ren : Go.Shelf.Ren := ⟨fun | 227 => 75 | n => n, fun | 9 => 9 | 116 => 123 | 4 => 4 | 0 => 0 | 3 => 3 | 5 => 5 | n => n, fun | n => n⟩
def Tryd.lays228_ren : Go.Shelf.Ren := ⟨fun | 228 => 98 | n => n, fun | 124 => 127 | 5 => 5 | 4 => 4 | 0 => 0 | 116 => 123 | n => n, fun | n => n⟩
def Tryd.lays260_ren : Go.Shelf.Ren := ⟨fun | 260 => 119 | n => n, fun | 9 => 9 | 21 => 21 | 3 => 3 | 4 => 4 | 5 => 5 | 119 => 173 | 0 => 0 | 46 => 112 | 139 => 176 | 138 => 175 | n => n, fun | 3 => 4 | 4 => 5 | n => n⟩
end Go.Proofs
