/-
  DERIVED: THE SHELF's CONTRACTS AT THIS DUMP, IN PLAIN WORDS (tools/lay-plain.mjs out of 'TrydShelf.lean', which tools/lay-shelf.mjs wrote): THE SAME DECLARATIONS UNDER THE SAME NAMES: 'import', 'namespace', 'open', 'def', 'theorem' AND NOTHING ELSE: no command of the shelf's: FOR A HAND-IN. Each laying: the table of numbers ('.._ren') and one theorem, a field a fact of the dump's own or the kernel's comparison; each contract: ONE APPLICATION.
-/
import Derived.Shelf.Strings.Builder1
import Derived.Shelf.Strings.Builder2
import Derived.Shelf.Strings.OnBuilder
import Derived.Shelf.Strings.Trim
import Derived.Shelf.Small.Utf8
import Derived.Shelf.Small.Bits
import Derived.Shelf.Small.Strs
import Derived.Shelf.Small.Wraps
import Derived.Shelf.Strings.BuilderF
import Derived.Shelf.Strings.BuilderK
import Derived.Shelf.Strings.Builder2Cap
import Derived.Shelf.Strconv.Itoa0
import Derived.Shelf.Strconv.Itoa1
import Derived.Shelf.LaysM
import Derived.Shelf.Strconv.Itoa2
import Derived.Shelf.Strconv.Itoa3
import Derived.Shelf.Strconv.Clone
import Derived.Shelf.Strconv.SyntaxError
import Derived.Shelf.LaysC
import Derived.Shelf.Strconv.ToError
import Derived.Shelf.Strconv.Lower
import Derived.Shelf.Strconv.ParseUint10
import Derived.Shelf.Strconv.ParseUint10Empty
import Derived.Shelf.Strconv.ParseUint10Any
import Derived.Shelf.Strconv.RangeError
import Derived.Shelf.Strconv.ToErrorRange
import Derived.Shelf.Strconv.ParseUintEmpty
import Derived.Shelf.Strconv.ParseUint10b64
import Derived.Shelf.Strconv.ParseUint10b32
import Derived.Shelf.Strconv.ParseUint10b16
import Derived.Shelf.Strconv.ParseUint10b8
import Derived.Shelf.Strconv.ParseUint10At
import Derived.Ground.MpProg
import Derived.Shelf.Pu.ParseUintPublic10
import Derived.Shelf.Strings.Search1
import Derived.Shelf.Sort.Plain
import Derived.Shelf.Strings.Prefix
import Derived.Shelf.Unicode.Decode
import Derived.Shelf.Strings.Runes
import Derived.Shelf.Strings.AsciiSet
import Derived.Shelf.Unicode.DecodeSlow
import Derived.Shelf.Unicode.DecodeAny
import Derived.Shelf.Unicode.DecodeLast
import Derived.Shelf.Strings.BuilderCap
import Derived.Ground.Names2Prog
import Derived.Shelf.Slices.SearchI
import Derived.Shelf.Slices.In.SortNone
import Derived.Test.YtbgbahllhjelgaaDoorProg
namespace Go.Proofs
open Go.Shelf
def Tryd.lays169_ren : Go.Shelf.Ren := ⟨fun | 169 => 31 | n => n, fun | 70 => 70 | 9 => 9 | 0 => 0 | 72 => 72 | 37 => 55 | 127 => 103 | 3 => 3 | 5 => 5 | n => n, fun | n => n⟩
def Tryd.lays241_ren : Go.Shelf.Ren := ⟨fun | 241 => 68 | 277 => 98 | n => n, fun | 70 => 70 | 3 => 3 | 0 => 0 | 72 => 72 | 37 => 55 | 5 => 5 | n => n, fun | n => n⟩
def Tryd.lays165_ren : Go.Shelf.Ren := ⟨fun | 165 => 56 | 240 => 58 | 241 => 68 | 276 => 71 | 277 => 98 | n => n, fun | 70 => 70 | 3 => 3 | 0 => 0 | 4 => 4 | 9 => 9 | 20 => 20 | 72 => 72 | 37 => 55 | 164 => 119 | 5 => 5 | n => n, fun | n => n⟩
def Tryd.lays156_ren : Go.Shelf.Ren := ⟨fun | 156 => 23 | 165 => 56 | 166 => 30 | 169 => 31 | 240 => 58 | 241 => 68 | 276 => 71 | 277 => 98 | n => n, fun | 31 => 35 | 9 => 9 | 3 => 3 | 4 => 4 | 0 => 0 | 20 => 20 | 72 => 72 | 76 => 75 | 70 => 70 | 37 => 55 | 75 => 74 | 127 => 103 | 164 => 119 | 5 => 5 | 80 => 77 | n => n, fun | n => n⟩
def Tryd.lays231_ren : Go.Shelf.Ren := ⟨fun | 231 => 74 | n => n, fun | 9 => 9 | 5 => 5 | 3 => 3 | 4 => 4 | n => n, fun | n => n⟩
def Tryd.lays232_ren : Go.Shelf.Ren := ⟨fun | 232 => 75 | n => n, fun | 9 => 9 | 5 => 5 | 3 => 3 | 4 => 4 | n => n, fun | n => n⟩
def Tryd.lays160_ren : Go.Shelf.Ren := ⟨fun | 160 => 61 | 232 => 75 | 231 => 74 | 227 => 76 | 234 => 78 | 233 => 77 | 236 => 80 | 235 => 79 | 228 => 99 | 271 => 102 | 151 => 101 | 197 => 100 | 120 => 122 | 152 => 121 | 260 => 120 | 137 => 96 | 119 => 131 | 224 => 132 | 225 => 133 | 217 => 119 | 266 => 130 | n => n, fun | 9 => 9 | 4 => 4 | 3 => 3 | 5 => 5 | 117 => 126 | 116 => 125 | 0 => 0 | 124 => 129 | 21 => 21 | 105 => 146 | 46 => 56 | 119 => 175 | 139 => 178 | 138 => 177 | n => n, fun | 3 => 4 | 4 => 5 | n => n⟩
theorem Tryd.lays160 : Go.Proofs.Lays.n160 Tryd.prog Tryd.lays160_ren := {
 mixed := by kernel_rfl
 f119 := Tryd.func131.trans (congrArg some (by kernel_rfl))
 f120 := Tryd.func122.trans (congrArg some (by kernel_rfl))
 f137 := Tryd.func96.trans (congrArg some (by kernel_rfl))
 f151 := Tryd.func101.trans (congrArg some (by kernel_rfl))
 f152 := Tryd.func121.trans (congrArg some (by kernel_rfl))
 f160 := Tryd.func61.trans (congrArg some (by kernel_rfl))
 f197 := Tryd.func100.trans (congrArg some (by kernel_rfl))
 f217 := Tryd.func119.trans (congrArg some (by kernel_rfl))
 f224 := Tryd.func132.trans (congrArg some (by kernel_rfl))
 f225 := Tryd.func133.trans (congrArg some (by kernel_rfl))
 f227 := Tryd.func76.trans (congrArg some (by kernel_rfl))
 f228 := Tryd.func99.trans (congrArg some (by kernel_rfl))
 f231 := Tryd.func74.trans (congrArg some (by kernel_rfl))
 f232 := Tryd.func75.trans (congrArg some (by kernel_rfl))
 f233 := Tryd.func77.trans (congrArg some (by kernel_rfl))
 f234 := Tryd.func78.trans (congrArg some (by kernel_rfl))
 f235 := Tryd.func79.trans (congrArg some (by kernel_rfl))
 f236 := Tryd.func80.trans (congrArg some (by kernel_rfl))
 f260 := Tryd.func120.trans (congrArg some (by kernel_rfl))
 f266 := Tryd.func130.trans (congrArg some (by kernel_rfl))
 f271 := Tryd.func102.trans (congrArg some (by kernel_rfl))
 t0 := Tryd.underlying0
 a0 := Tryd.isAgg0
 z0 := Tryd.sizeOf0
 v0 := Tryd.zeroValue0
 t3 := Tryd.underlying3
 a3 := Tryd.isAgg3
 z3 := Tryd.sizeOf3
 v3 := Tryd.zeroValue3
 t4 := Tryd.underlying4
 a4 := Tryd.isAgg4
 z4 := Tryd.sizeOf4
 v4 := Tryd.zeroValue4
 t5 := Tryd.underlying5
 a5 := Tryd.isAgg5
 z5 := Tryd.sizeOf5
 v5 := Tryd.zeroValue5
 t9 := Tryd.underlying9
 a9 := Tryd.isAgg9
 z9 := Tryd.sizeOf9
 v9 := Tryd.zeroValue9
 t21 := Tryd.underlying21
 a21 := Tryd.isAgg21
 z21 := Tryd.sizeOf21
 v21 := Tryd.zeroValue21
 t46 := Tryd.underlying56
 a46 := Tryd.isAgg56
 z46 := Tryd.sizeOf56
 v46 := Tryd.zeroValue56
 t105 := Tryd.underlying146
 a105 := Tryd.isAgg146
 z105 := Tryd.sizeOf146
 v105 := Tryd.zeroValue146
 t116 := Tryd.underlying125
 a116 := Tryd.isAgg125
 z116 := Tryd.sizeOf125
 t117 := Tryd.underlying126
 a117 := Tryd.isAgg126
 z117 := Tryd.sizeOf126
 v117 := Tryd.zeroValue126
 t119 := Tryd.underlying175
 a119 := Tryd.isAgg175
 z119 := Tryd.sizeOf175
 t124 := Tryd.underlying129
 a124 := Tryd.isAgg129
 z124 := Tryd.sizeOf129
 v124 := Tryd.zeroValue129
 t138 := Tryd.underlying177
 a138 := Tryd.isAgg177
 z138 := Tryd.sizeOf177
 v138 := Tryd.zeroValue177
 t139 := Tryd.underlying178
 a139 := Tryd.isAgg178
 z139 := Tryd.sizeOf178
 v139 := Tryd.zeroValue178
 g3 := by kernel_rfl
 g4 := by kernel_rfl }
def Tryd.lays119_ren : Go.Shelf.Ren := ⟨fun | 119 => 131 | n => n, fun | 21 => 21 | 4 => 4 | n => n, fun | n => n⟩
def Tryd.lays120_ren : Go.Shelf.Ren := ⟨fun | 120 => 122 | n => n, fun | 5 => 5 | 4 => 4 | n => n, fun | n => n⟩
def Tryd.lays128_ren : Go.Shelf.Ren := ⟨fun | 128 => 93 | n => n, fun | 51 => 141 | 3 => 3 | 4 => 4 | 46 => 56 | 5 => 5 | 9 => 9 | n => n, fun | n => n⟩
def Tryd.lays125_ren : Go.Shelf.Ren := ⟨fun | 125 => 66 | 128 => 93 | 129 => 94 | n => n, fun | 46 => 56 | 3 => 3 | 51 => 141 | 53 => 85 | 4 => 4 | 5 => 5 | 9 => 9 | n => n, fun | n => n⟩
def Tryd.lays137_ren : Go.Shelf.Ren := ⟨fun | 137 => 96 | 217 => 119 | 266 => 130 | n => n, fun | 9 => 9 | 5 => 5 | 3 => 3 | n => n, fun | n => n⟩
def Tryd.lays210_ren : Go.Shelf.Ren := ⟨fun | 210 => 60 | 206 => 73 | n => n, fun | 9 => 9 | 4 => 4 | 3 => 3 | n => n, fun | n => n⟩
def Tryd.lays103_ren : Go.Shelf.Ren := ⟨fun | 103 => 35 | 210 => 60 | 206 => 73 | n => n, fun | 9 => 9 | 4 => 4 | 24 => 83 | 3 => 3 | n => n, fun | n => n⟩
theorem Tryd.lays103 : Go.Proofs.Lays.n103 Tryd.prog Tryd.lays103_ren := {
 mixed := by kernel_rfl
 f103 := Tryd.func35.trans (congrArg some (by kernel_rfl))
 f206 := Tryd.func73.trans (congrArg some (by kernel_rfl))
 f210 := Tryd.func60.trans (congrArg some (by kernel_rfl))
 t3 := Tryd.underlying3
 a3 := Tryd.isAgg3
 z3 := Tryd.sizeOf3
 v3 := Tryd.zeroValue3
 t4 := Tryd.underlying4
 a4 := Tryd.isAgg4
 z4 := Tryd.sizeOf4
 v4 := Tryd.zeroValue4
 t9 := Tryd.underlying9
 a9 := Tryd.isAgg9
 z9 := Tryd.sizeOf9
 v9 := Tryd.zeroValue9
 t24 := Tryd.underlying83
 a24 := Tryd.isAgg83
 z24 := Tryd.sizeOf83
 v24 := Tryd.zeroValue83 }
open Go.RowKit in
theorem Tryd.strings_CutPrefix (s p : ByteArray) (w : World) :
  Calls Tryd.prog 35 #[.string s, .string p] w fun e w' => e = .returned (.tuple #[.string ⟨(Lib.trimPrefix s.data.toList p.data.toList).toArray⟩, .bool (Lib.hasPrefix s.data.toList p.data.toList)]) /\ w' = w := Any.strings_CutPrefix Tryd.lays103 s p w
def Tryd.lays215_ren : Go.Shelf.Ren := ⟨fun | 215 => 118 | n => n, fun | 3 => 3 | 4 => 4 | n => n, fun | n => n⟩
def Tryd.lays129_ren : Go.Shelf.Ren := ⟨fun | 129 => 94 | n => n, fun | 53 => 85 | 3 => 3 | 4 => 4 | 46 => 56 | 5 => 5 | 9 => 9 | n => n, fun | n => n⟩
def Tryd.lays317_ren : Go.Shelf.Ren := ⟨fun | 317 => 125 | n => n, fun | 3 => 3 | 46 => 56 | n => n, fun | n => n⟩
def Tryd.lays318_ren : Go.Shelf.Ren := ⟨fun | 318 => 126 | n => n, fun | 3 => 3 | 4 => 4 | n => n, fun | n => n⟩
def Tryd.lays283_ren : Go.Shelf.Ren := ⟨fun | 283 => 109 | n => n, fun | 3 => 3 | 9 => 9 | 4 => 4 | n => n, fun | n => n⟩
def Tryd.laysM284_ren : Go.Shelf.Ren := ⟨fun | 284 => 110 | 129 => 94 | 317 => 125 | 318 => 126 | n => n, fun | 53 => 85 | 3 => 3 | 212 => 171 | 0 => 0 | 4 => 4 | 46 => 56 | 5 => 5 | 9 => 9 | n => n, fun | 17 => 3 | n => n⟩
def Tryd.lays285_ren : Go.Shelf.Ren := ⟨fun | 285 => 111 | n => n, fun | 37 => 55 | 53 => 85 | 3 => 3 | 4 => 4 | 51 => 141 | 9 => 9 | 5 => 5 | 0 => 0 | n => n, fun | n => n⟩
def Tryd.laysM246_ren : Go.Shelf.Ren := ⟨fun | 246 => 83 | 283 => 109 | 284 => 110 | 285 => 111 | 286 => 112 | 129 => 94 | 317 => 125 | 318 => 126 | 319 => 127 | 320 => 128 | 337 => 134 | 338 => 135 | n => n, fun | 2 => 2 | 3 => 3 | 9 => 9 | 4 => 4 | 171 => 155 | 0 => 0 | 53 => 85 | 37 => 55 | 5 => 5 | 173 => 157 | 212 => 171 | 51 => 141 | 20 => 20 | 213 => 172 | 46 => 56 | 232 => 184 | 233 => 185 | n => n, fun | 17 => 3 | 18 => 6 | 19 => 7 | n => n⟩
def Tryd.lays246_ren : Go.Shelf.Ren := ⟨fun | 246 => 83 | 283 => 109 | 284 => 110 | 285 => 111 | 286 => 112 | 129 => 94 | 317 => 125 | 318 => 126 | 319 => 127 | 320 => 128 | 337 => 134 | 338 => 135 | n => n, fun | 2 => 2 | 3 => 3 | 9 => 9 | 4 => 4 | 171 => 155 | 0 => 0 | 53 => 85 | 37 => 55 | 5 => 5 | 173 => 157 | 212 => 171 | 51 => 141 | 20 => 20 | 213 => 172 | 46 => 56 | 232 => 184 | 233 => 185 | n => n, fun | 17 => 3 | 18 => 6 | 19 => 7 | n => n⟩
def Tryd.laysM243_ren : Go.Shelf.Ren := ⟨fun | 243 => 64 | 246 => 83 | 283 => 109 | 284 => 110 | 285 => 111 | 286 => 112 | 129 => 94 | 317 => 125 | 318 => 126 | 319 => 127 | 320 => 128 | 337 => 134 | 338 => 135 | n => n, fun | 3 => 3 | 9 => 9 | 2 => 2 | 4 => 4 | 171 => 155 | 0 => 0 | 53 => 85 | 37 => 55 | 5 => 5 | 173 => 157 | 212 => 171 | 51 => 141 | 20 => 20 | 213 => 172 | 46 => 56 | 232 => 184 | 233 => 185 | n => n, fun | 17 => 3 | 18 => 6 | 19 => 7 | n => n⟩
def Tryd.lays243_ren : Go.Shelf.Ren := ⟨fun | 243 => 64 | 246 => 83 | 283 => 109 | 284 => 110 | 285 => 111 | 286 => 112 | 129 => 94 | 317 => 125 | 318 => 126 | 319 => 127 | 320 => 128 | 337 => 134 | 338 => 135 | n => n, fun | 3 => 3 | 9 => 9 | 2 => 2 | 4 => 4 | 171 => 155 | 0 => 0 | 53 => 85 | 37 => 55 | 5 => 5 | 173 => 157 | 212 => 171 | 51 => 141 | 20 => 20 | 213 => 172 | 46 => 56 | 232 => 184 | 233 => 185 | n => n, fun | 17 => 3 | 18 => 6 | 19 => 7 | n => n⟩
def Tryd.laysM171_ren : Go.Shelf.Ren := ⟨fun | 171 => 42 | 243 => 64 | 246 => 83 | 283 => 109 | 284 => 110 | 285 => 111 | 286 => 112 | 129 => 94 | 317 => 125 | 318 => 126 | 319 => 127 | 320 => 128 | 337 => 134 | 338 => 135 | n => n, fun | 3 => 3 | 9 => 9 | 2 => 2 | 4 => 4 | 171 => 155 | 0 => 0 | 53 => 85 | 37 => 55 | 5 => 5 | 173 => 157 | 212 => 171 | 51 => 141 | 20 => 20 | 213 => 172 | 46 => 56 | 232 => 184 | 233 => 185 | n => n, fun | 17 => 3 | 18 => 6 | 19 => 7 | n => n⟩
theorem Tryd.laysM171 : Go.Proofs.LaysM.n171 Tryd.prog Tryd.laysM171_ren := {
 mixed := by kernel_rfl
 f129 := Tryd.func94.trans (congrArg some (by kernel_rfl))
 f171 := Tryd.func42.trans (congrArg some (by kernel_rfl))
 f243 := Tryd.func64.trans (congrArg some (by kernel_rfl))
 f246 := Tryd.func83.trans (congrArg some (by kernel_rfl))
 f283 := Tryd.func109.trans (congrArg some (by kernel_rfl))
 f284 := Tryd.func110.trans (congrArg some (by kernel_rfl))
 f285 := Tryd.func111.trans (congrArg some (by kernel_rfl))
 f286 := Tryd.func112.trans (congrArg some (by kernel_rfl))
 f317 := Tryd.func125.trans (congrArg some (by kernel_rfl))
 f318 := Tryd.func126.trans (congrArg some (by kernel_rfl))
 f319 := Tryd.func127.trans (congrArg some (by kernel_rfl))
 f320 := Tryd.func128.trans (congrArg some (by kernel_rfl))
 f337 := Tryd.func134.trans (congrArg some (by kernel_rfl))
 f338 := Tryd.func135.trans (congrArg some (by kernel_rfl))
 t0 := Tryd.underlying0
 a0 := Tryd.isAgg0
 z0 := Tryd.sizeOf0
 v0 := Tryd.zeroValue0
 t2 := Tryd.underlying2
 a2 := Tryd.isAgg2
 z2 := Tryd.sizeOf2
 v2 := Tryd.zeroValue2
 t3 := Tryd.underlying3
 a3 := Tryd.isAgg3
 z3 := Tryd.sizeOf3
 v3 := Tryd.zeroValue3
 t4 := Tryd.underlying4
 a4 := Tryd.isAgg4
 z4 := Tryd.sizeOf4
 v4 := Tryd.zeroValue4
 t5 := Tryd.underlying5
 a5 := Tryd.isAgg5
 z5 := Tryd.sizeOf5
 v5 := Tryd.zeroValue5
 t9 := Tryd.underlying9
 a9 := Tryd.isAgg9
 z9 := Tryd.sizeOf9
 v9 := Tryd.zeroValue9
 t20 := Tryd.underlying20
 a20 := Tryd.isAgg20
 z20 := Tryd.sizeOf20
 v20 := Tryd.zeroValue20
 t37 := Tryd.underlying55
 a37 := Tryd.isAgg55
 z37 := Tryd.sizeOf55
 v37 := Tryd.zeroValue55
 t46 := Tryd.underlying56
 a46 := Tryd.isAgg56
 z46 := Tryd.sizeOf56
 v46 := Tryd.zeroValue56
 t51 := Tryd.underlying141
 a51 := Tryd.isAgg141
 z51 := Tryd.sizeOf141
 v51 := Tryd.zeroValue141
 t53 := Tryd.underlying85
 a53 := Tryd.isAgg85
 z53 := Tryd.sizeOf85
 v53 := Tryd.zeroValue85
 t171 := Tryd.underlying155
 a171 := Tryd.isAgg155
 z171 := Tryd.sizeOf155
 v171 := Tryd.zeroValue155
 t173 := Tryd.underlying157
 a173 := Tryd.isAgg157
 z173 := Tryd.sizeOf157
 v173 := Tryd.zeroValue157
 t212 := Tryd.underlying171
 a212 := Tryd.isAgg171
 z212 := Tryd.sizeOf171
 v212 := Tryd.zeroValue171
 t213 := Tryd.underlying172
 a213 := Tryd.isAgg172
 z213 := Tryd.sizeOf172
 t232 := Tryd.underlying184
 a232 := Tryd.isAgg184
 z232 := Tryd.sizeOf184
 v232 := Tryd.zeroValue184
 t233 := Tryd.underlying185
 a233 := Tryd.isAgg185
 z233 := Tryd.sizeOf185
 v233 := Tryd.zeroValue185
 g17 := by kernel_rfl
 g18 := by kernel_rfl
 g19 := by kernel_rfl
 i0 := by kernel_rfl
 i2 := by kernel_rfl
 i3 := by kernel_rfl
 i4 := by kernel_rfl
 i5 := by kernel_rfl
 i9 := by kernel_rfl
 i20 := by kernel_rfl
 i37 := by kernel_rfl
 i46 := by kernel_rfl
 i51 := by kernel_rfl
 i53 := by kernel_rfl
 i171 := by kernel_rfl
 i173 := by kernel_rfl
 i212 := by kernel_rfl
 i232 := by kernel_rfl
 i233 := by kernel_rfl
 m17 := by kernel_rfl
 m18 := by kernel_rfl
 m19 := by kernel_rfl }
open Go.RowKit Go.Sort Go.Lib in
theorem Tryd.strconv_Itoa (n : Int) (h0 : -9223372036854775808 <= n) (h1 : n <= 9223372036854775807) (w : World) (htab : Lib.TabIs Tryd.prog w "internal/strconv.uint64pow10" .u64 Lib.pow10Tab) :
  Calls Tryd.prog 42 #[.int .i64 n] w fun e w' => e = .returned (.string ⟨(Lib.itoa n).toArray⟩) /\ ∃ k os, w' = grow (w.drewN k) os := Any.strconv_Itoa Tryd.laysM171 n h0 h1 w htab
def Tryd.lays171_ren : Go.Shelf.Ren := ⟨fun | 171 => 42 | 243 => 64 | 246 => 83 | 283 => 109 | 284 => 110 | 285 => 111 | 286 => 112 | 129 => 94 | 317 => 125 | 318 => 126 | 319 => 127 | 320 => 128 | 337 => 134 | 338 => 135 | n => n, fun | 3 => 3 | 9 => 9 | 2 => 2 | 4 => 4 | 171 => 155 | 0 => 0 | 53 => 85 | 37 => 55 | 5 => 5 | 173 => 157 | 212 => 171 | 51 => 141 | 20 => 20 | 213 => 172 | 46 => 56 | 232 => 184 | 233 => 185 | n => n, fun | 17 => 3 | 18 => 6 | 19 => 7 | n => n⟩
def Tryd.laysM316_ren : Go.Shelf.Ren := ⟨fun | 316 => 123 | n => n, fun | 9 => 9 | 3 => 3 | 4 => 4 | 37 => 55 | 0 => 0 | 127 => 103 | 5 => 5 | n => n, fun | n => n⟩
def Tryd.laysM279_ren : Go.Shelf.Ren := ⟨fun | 279 => 105 | 316 => 123 | n => n, fun | 9 => 9 | 168 => 152 | 75 => 74 | 210 => 167 | 3 => 3 | 4 => 4 | 37 => 55 | 0 => 0 | 127 => 103 | 80 => 77 | 5 => 5 | n => n, fun | 15 => 1 | n => n⟩
def Tryd.laysC245_ren : Go.Shelf.Ren := ⟨fun | 245 => 82 | 279 => 105 | 280 => 106 | 281 => 107 | 282 => 108 | 316 => 123 | 171 => 42 | 205 => 124 | 243 => 64 | 246 => 83 | 283 => 109 | 284 => 110 | 285 => 111 | 286 => 112 | 129 => 94 | 317 => 125 | 318 => 126 | 319 => 127 | 320 => 128 | 337 => 134 | 338 => 135 | n => n, fun | 9 => 9 | 3 => 3 | 75 => 74 | 167 => 149 | 4 => 4 | 168 => 152 | 210 => 167 | 37 => 55 | 0 => 0 | 127 => 103 | 145 => 183 | 143 => 181 | 2 => 2 | 171 => 155 | 53 => 85 | 5 => 5 | 173 => 157 | 212 => 171 | 51 => 141 | 20 => 20 | 213 => 172 | 46 => 56 | 232 => 184 | 233 => 185 | 80 => 77 | n => n, fun | 15 => 1 | 16 => 2 | 17 => 3 | 18 => 6 | 19 => 7 | n => n⟩
def Tryd.lays321_ren : Go.Shelf.Ren := ⟨fun | 321 => 103 | n => n, fun | 5 => 5 | n => n, fun | n => n⟩
def Tryd.lays287_ren : Go.Shelf.Ren := ⟨fun | 287 => 81 | 321 => 103 | 322 => 104 | n => n, fun | 9 => 9 | 3 => 3 | 53 => 85 | 75 => 74 | 4 => 4 | 167 => 149 | 5 => 5 | 46 => 56 | 37 => 55 | 0 => 0 | 21 => 21 | 80 => 77 | n => n, fun | n => n⟩
def Tryd.laysM280_ren : Go.Shelf.Ren := ⟨fun | 280 => 106 | 316 => 123 | n => n, fun | 9 => 9 | 168 => 152 | 75 => 74 | 210 => 167 | 3 => 3 | 4 => 4 | 37 => 55 | 0 => 0 | 127 => 103 | 80 => 77 | 5 => 5 | n => n, fun | 16 => 2 | n => n⟩
def Tryd.laysPu14_ren : Go.Shelf.Ren := ⟨fun | 14 => 62 | 16 => 81 | 17 => 82 | 19 => 103 | 20 => 104 | 21 => 105 | 22 => 106 | 23 => 107 | 24 => 108 | 25 => 123 | 27 => 42 | 26 => 124 | 28 => 64 | 29 => 83 | 30 => 109 | 31 => 110 | 32 => 111 | 33 => 112 | 35 => 94 | 34 => 125 | 36 => 126 | 37 => 127 | 38 => 128 | 39 => 134 | 40 => 135 | n => n, fun | 9 => 9 | 3 => 3 | 22 => 85 | 24 => 74 | 25 => 110 | 4 => 4 | 34 => 149 | 5 => 5 | 36 => 56 | 37 => 55 | 0 => 0 | 39 => 152 | 21 => 21 | 44 => 167 | 47 => 103 | 50 => 183 | 48 => 181 | 2 => 2 | 52 => 155 | 55 => 157 | 59 => 171 | 60 => 141 | 20 => 20 | 61 => 172 | 65 => 184 | 66 => 185 | 67 => 77 | n => n, fun | 0 => 1 | 1 => 2 | 2 => 3 | 3 => 6 | 4 => 7 | n => n⟩
theorem Tryd.laysPu14 : Go.Proofs.LaysPu.n14 Tryd.prog Tryd.laysPu14_ren := {
 mixed := by kernel_rfl
 f14 := Tryd.func62.trans (congrArg some (by kernel_rfl))
 f16 := Tryd.func81.trans (congrArg some (by kernel_rfl))
 f17 := Tryd.func82.trans (congrArg some (by kernel_rfl))
 f19 := Tryd.func103.trans (congrArg some (by kernel_rfl))
 f20 := Tryd.func104.trans (congrArg some (by kernel_rfl))
 f21 := Tryd.func105.trans (congrArg some (by kernel_rfl))
 f22 := Tryd.func106.trans (congrArg some (by kernel_rfl))
 f23 := Tryd.func107.trans (congrArg some (by kernel_rfl))
 f24 := Tryd.func108.trans (congrArg some (by kernel_rfl))
 f25 := Tryd.func123.trans (congrArg some (by kernel_rfl))
 f26 := Tryd.func124.trans (congrArg some (by kernel_rfl))
 f27 := Tryd.func42.trans (congrArg some (by kernel_rfl))
 f28 := Tryd.func64.trans (congrArg some (by kernel_rfl))
 f29 := Tryd.func83.trans (congrArg some (by kernel_rfl))
 f30 := Tryd.func109.trans (congrArg some (by kernel_rfl))
 f31 := Tryd.func110.trans (congrArg some (by kernel_rfl))
 f32 := Tryd.func111.trans (congrArg some (by kernel_rfl))
 f33 := Tryd.func112.trans (congrArg some (by kernel_rfl))
 f34 := Tryd.func125.trans (congrArg some (by kernel_rfl))
 f35 := Tryd.func94.trans (congrArg some (by kernel_rfl))
 f36 := Tryd.func126.trans (congrArg some (by kernel_rfl))
 f37 := Tryd.func127.trans (congrArg some (by kernel_rfl))
 f38 := Tryd.func128.trans (congrArg some (by kernel_rfl))
 f39 := Tryd.func134.trans (congrArg some (by kernel_rfl))
 f40 := Tryd.func135.trans (congrArg some (by kernel_rfl))
 t0 := Tryd.underlying0
 a0 := Tryd.isAgg0
 z0 := Tryd.sizeOf0
 v0 := Tryd.zeroValue0
 i0 := by kernel_rfl
 t2 := Tryd.underlying2
 a2 := Tryd.isAgg2
 z2 := Tryd.sizeOf2
 v2 := Tryd.zeroValue2
 i2 := by kernel_rfl
 t3 := Tryd.underlying3
 a3 := Tryd.isAgg3
 z3 := Tryd.sizeOf3
 v3 := Tryd.zeroValue3
 i3 := by kernel_rfl
 t4 := Tryd.underlying4
 a4 := Tryd.isAgg4
 z4 := Tryd.sizeOf4
 v4 := Tryd.zeroValue4
 i4 := by kernel_rfl
 t5 := Tryd.underlying5
 a5 := Tryd.isAgg5
 z5 := Tryd.sizeOf5
 v5 := Tryd.zeroValue5
 i5 := by kernel_rfl
 t9 := Tryd.underlying9
 a9 := Tryd.isAgg9
 z9 := Tryd.sizeOf9
 v9 := Tryd.zeroValue9
 i9 := by kernel_rfl
 t20 := Tryd.underlying20
 a20 := Tryd.isAgg20
 z20 := Tryd.sizeOf20
 v20 := Tryd.zeroValue20
 i20 := by kernel_rfl
 t21 := Tryd.underlying21
 a21 := Tryd.isAgg21
 z21 := Tryd.sizeOf21
 v21 := Tryd.zeroValue21
 i21 := by kernel_rfl
 t22 := Tryd.underlying85
 a22 := Tryd.isAgg85
 z22 := Tryd.sizeOf85
 v22 := Tryd.zeroValue85
 i22 := by kernel_rfl
 t24 := Tryd.underlying74
 a24 := Tryd.isAgg74
 z24 := Tryd.sizeOf74
 v24 := Tryd.zeroValue74
 i24 := by kernel_rfl
 t25 := Tryd.underlying110
 a25 := Tryd.isAgg110
 z25 := Tryd.sizeOf110
 v25 := Tryd.zeroValue110
 i25 := by kernel_rfl
 t34 := Tryd.underlying149
 a34 := Tryd.isAgg149
 z34 := Tryd.sizeOf149
 v34 := Tryd.zeroValue149
 i34 := by kernel_rfl
 c34 := by kernel_rfl
 t36 := Tryd.underlying56
 a36 := Tryd.isAgg56
 z36 := Tryd.sizeOf56
 v36 := Tryd.zeroValue56
 i36 := by kernel_rfl
 t37 := Tryd.underlying55
 a37 := Tryd.isAgg55
 z37 := Tryd.sizeOf55
 v37 := Tryd.zeroValue55
 i37 := by kernel_rfl
 t39 := Tryd.underlying152
 a39 := Tryd.isAgg152
 z39 := Tryd.sizeOf152
 v39 := Tryd.zeroValue152
 i39 := by kernel_rfl
 t44 := Tryd.underlying167
 a44 := Tryd.isAgg167
 z44 := Tryd.sizeOf167
 v44 := Tryd.zeroValue167
 i44 := by kernel_rfl
 t47 := Tryd.underlying103
 a47 := Tryd.isAgg103
 z47 := Tryd.sizeOf103
 v47 := Tryd.zeroValue103
 i47 := by kernel_rfl
 t48 := Tryd.underlying181
 a48 := Tryd.isAgg181
 z48 := Tryd.sizeOf181
 v48 := Tryd.zeroValue181
 i48 := by kernel_rfl
 t50 := Tryd.underlying183
 a50 := Tryd.isAgg183
 z50 := Tryd.sizeOf183
 v50 := Tryd.zeroValue183
 i50 := by kernel_rfl
 t52 := Tryd.underlying155
 a52 := Tryd.isAgg155
 z52 := Tryd.sizeOf155
 v52 := Tryd.zeroValue155
 i52 := by kernel_rfl
 t55 := Tryd.underlying157
 a55 := Tryd.isAgg157
 z55 := Tryd.sizeOf157
 v55 := Tryd.zeroValue157
 i55 := by kernel_rfl
 t59 := Tryd.underlying171
 a59 := Tryd.isAgg171
 z59 := Tryd.sizeOf171
 v59 := Tryd.zeroValue171
 i59 := by kernel_rfl
 t60 := Tryd.underlying141
 a60 := Tryd.isAgg141
 z60 := Tryd.sizeOf141
 v60 := Tryd.zeroValue141
 i60 := by kernel_rfl
 t61 := Tryd.underlying172
 a61 := Tryd.isAgg172
 z61 := Tryd.sizeOf172
 t65 := Tryd.underlying184
 a65 := Tryd.isAgg184
 z65 := Tryd.sizeOf184
 v65 := Tryd.zeroValue184
 i65 := by kernel_rfl
 t66 := Tryd.underlying185
 a66 := Tryd.isAgg185
 z66 := Tryd.sizeOf185
 v66 := Tryd.zeroValue185
 i66 := by kernel_rfl
 t67 := Tryd.underlying77
 a67 := Tryd.isAgg77
 z67 := Tryd.sizeOf77
 v67 := Tryd.zeroValue77
 i67 := by kernel_rfl
 g0 := by kernel_rfl
 m0 := by kernel_rfl
 g1 := by kernel_rfl
 m1 := by kernel_rfl
 g2 := by kernel_rfl
 m2 := by kernel_rfl
 g3 := by kernel_rfl
 m3 := by kernel_rfl
 g4 := by kernel_rfl
 m4 := by kernel_rfl }
open Go.RowKit in
theorem Tryd.strconv_ParseUint_10_at64_ok (s : ByteArray) (hmax : s.size <= 9223372036854775806) (u : Nat) (h : Lib.parseUintB 64 s.data.toList = .ok u) (w : World) :
  Calls Tryd.prog 62 #[.string s, .int .i64 10, .int .i64 64] w fun e w' => e = .returned (.tuple #[.int .u64 u, .nilIface]) /\ (w' = w \/ w' = Lib.bytesWorld w 5 s) := Any.strconv_ParseUint_10_at64_ok Tryd.laysPu14 s hmax u h w
open Go.RowKit in
theorem Tryd.strconv_ParseUint_10_at64_range (s : ByteArray) (hlim : s.size <= 281474976710656) (h : Lib.parseUintB 64 s.data.toList = .range) (ev : Value) (w : World) (hv : w.cell? ⟨2, 0, none⟩ = some ev) (hev : ev = .nilIface \/ ∃ te pe, ev = .iface te pe) :
  Calls Tryd.prog 62 #[.string s, .int .i64 10, .int .i64 64] w fun e w' => ∃ N, e = .returned (.tuple #[.int .u64 18446744073709551615, .iface 152 (.pointer (some ⟨N, 0, none⟩))]) /\ w.heap.size <= N /\ w'.heap[N]? = some (.cells #[.string ⟨#[80, 97, 114, 115, 101, 85, 105, 110, 116]⟩, .string s, ev] 167 (0, 0)) /\ Below w.heap.size w w' := Any.strconv_ParseUint_10_at64_range Tryd.laysPu14 s hlim h ev w hv hev
def Tryd.lays217_ren : Go.Shelf.Ren := ⟨fun | 217 => 119 | 266 => 130 | n => n, fun | 9 => 9 | 5 => 5 | 3 => 3 | n => n, fun | n => n⟩
def Tryd.lays224_ren : Go.Shelf.Ren := ⟨fun | 224 => 132 | n => n, fun | 3 => 3 | n => n, fun | n => n⟩
def Tryd.lays189_ren : Go.Shelf.Ren := ⟨fun | 189 => 43 | 125 => 66 | 257 => 65 | 128 => 93 | 129 => 94 | 294 => 84 | 295 => 85 | 296 => 86 | 297 => 87 | 298 => 88 | 299 => 89 | 216 => 90 | 300 => 91 | 301 => 92 | 328 => 113 | 329 => 114 | 330 => 115 | 331 => 116 | 332 => 117 | 215 => 118 | 343 => 129 | n => n, fun | 28 => 42 | 3 => 3 | 46 => 56 | 0 => 0 | 51 => 141 | 53 => 85 | 4 => 4 | 183 => 134 | 182 => 133 | 131 => 79 | 5 => 5 | 9 => 9 | 218 => 159 | 222 => 163 | 228 => 173 | 229 => 48 | n => n, fun | n => n⟩
theorem Tryd.lays189 : Go.Proofs.Lays.n189 Tryd.prog Tryd.lays189_ren := {
 mixed := by kernel_rfl
 f125 := Tryd.func66.trans (congrArg some (by kernel_rfl))
 f128 := Tryd.func93.trans (congrArg some (by kernel_rfl))
 f129 := Tryd.func94.trans (congrArg some (by kernel_rfl))
 f189 := Tryd.func43.trans (congrArg some (by kernel_rfl))
 f215 := Tryd.func118.trans (congrArg some (by kernel_rfl))
 f216 := Tryd.func90.trans (congrArg some (by kernel_rfl))
 f257 := Tryd.func65.trans (congrArg some (by kernel_rfl))
 f294 := Tryd.func84.trans (congrArg some (by kernel_rfl))
 f295 := Tryd.func85.trans (congrArg some (by kernel_rfl))
 f296 := Tryd.func86.trans (congrArg some (by kernel_rfl))
 f297 := Tryd.func87.trans (congrArg some (by kernel_rfl))
 f298 := Tryd.func88.trans (congrArg some (by kernel_rfl))
 f299 := Tryd.func89.trans (congrArg some (by kernel_rfl))
 f300 := Tryd.func91.trans (congrArg some (by kernel_rfl))
 f301 := Tryd.func92.trans (congrArg some (by kernel_rfl))
 f328 := Tryd.func113.trans (congrArg some (by kernel_rfl))
 f329 := Tryd.func114.trans (congrArg some (by kernel_rfl))
 f330 := Tryd.func115.trans (congrArg some (by kernel_rfl))
 f331 := Tryd.func116.trans (congrArg some (by kernel_rfl))
 f332 := Tryd.func117.trans (congrArg some (by kernel_rfl))
 f343 := Tryd.func129.trans (congrArg some (by kernel_rfl))
 t0 := Tryd.underlying0
 a0 := Tryd.isAgg0
 z0 := Tryd.sizeOf0
 v0 := Tryd.zeroValue0
 t3 := Tryd.underlying3
 a3 := Tryd.isAgg3
 z3 := Tryd.sizeOf3
 v3 := Tryd.zeroValue3
 t4 := Tryd.underlying4
 a4 := Tryd.isAgg4
 z4 := Tryd.sizeOf4
 v4 := Tryd.zeroValue4
 t5 := Tryd.underlying5
 a5 := Tryd.isAgg5
 z5 := Tryd.sizeOf5
 v5 := Tryd.zeroValue5
 t9 := Tryd.underlying9
 a9 := Tryd.isAgg9
 z9 := Tryd.sizeOf9
 v9 := Tryd.zeroValue9
 t28 := Tryd.underlying42
 a28 := Tryd.isAgg42
 z28 := Tryd.sizeOf42
 v28 := Tryd.zeroValue42
 t46 := Tryd.underlying56
 a46 := Tryd.isAgg56
 z46 := Tryd.sizeOf56
 v46 := Tryd.zeroValue56
 t51 := Tryd.underlying141
 a51 := Tryd.isAgg141
 z51 := Tryd.sizeOf141
 v51 := Tryd.zeroValue141
 t53 := Tryd.underlying85
 a53 := Tryd.isAgg85
 z53 := Tryd.sizeOf85
 v53 := Tryd.zeroValue85
 t131 := Tryd.underlying79
 a131 := Tryd.isAgg79
 z131 := Tryd.sizeOf79
 v131 := Tryd.zeroValue79
 t182 := Tryd.underlying133
 a182 := Tryd.isAgg133
 z182 := Tryd.sizeOf133
 v182 := Tryd.zeroValue133
 t183 := Tryd.underlying134
 a183 := Tryd.isAgg134
 z183 := Tryd.sizeOf134
 v183 := Tryd.zeroValue134
 t218 := Tryd.underlying159
 a218 := Tryd.isAgg159
 z218 := Tryd.sizeOf159
 v218 := Tryd.zeroValue159
 t222 := Tryd.underlying163
 a222 := Tryd.isAgg163
 z222 := Tryd.sizeOf163
 v222 := Tryd.zeroValue163
 t228 := Tryd.underlying173
 a228 := Tryd.isAgg173
 z228 := Tryd.sizeOf173
 v228 := Tryd.zeroValue173
 t229 := Tryd.underlying48
 a229 := Tryd.isAgg48
 z229 := Tryd.sizeOf48
 v229 := Tryd.zeroValue48 }
open Go.Sort Go.RowKit in
theorem Tryd.slices_Sort_int (blk off cap : Nat) (zs : List Int) (w : World) (hH : Holds (Value.int .i64) w blk off zs.toArray) (hblk : blk < w.heap.size) (hsz : zs.length < 4611686018427387904) :
  Calls Tryd.prog 43 #[.slice (some ⟨blk, off, none⟩) zs.length cap] w fun e w' =>
   e = .returned (.tuple #[]) /\ ∃ n os, w' = grow (putRow (Value.int .i64) (Sort.ahead w n) blk off (zs.mergeSort fun x y => decide (x <= y)).toArray) os := Any.slices_Sort_int Tryd.lays189 blk off cap zs w hH hblk hsz
def Tryd.lays206_ren : Go.Shelf.Ren := ⟨fun | 206 => 73 | n => n, fun | 9 => 9 | 4 => 4 | 3 => 3 | n => n, fun | n => n⟩
def Tryd.lays197_ren : Go.Shelf.Ren := ⟨fun | 197 => 100 | 260 => 120 | n => n, fun | 9 => 9 | 21 => 21 | 3 => 3 | 4 => 4 | 5 => 5 | 105 => 146 | 119 => 175 | 0 => 0 | 46 => 56 | 139 => 178 | 138 => 177 | n => n, fun | 3 => 4 | 4 => 5 | n => n⟩
def Tryd.lays152_ren : Go.Shelf.Ren := ⟨fun | 152 => 121 | 137 => 96 | 119 => 131 | 224 => 132 | 225 => 133 | 217 => 119 | 266 => 130 | n => n, fun | 9 => 9 | 21 => 21 | 3 => 3 | 4 => 4 | 5 => 5 | 0 => 0 | 46 => 56 | n => n, fun | n => n⟩
def Tryd.lays151_ren : Go.Shelf.Ren := ⟨fun | 151 => 101 | 152 => 121 | 137 => 96 | 119 => 131 | 224 => 132 | 225 => 133 | 217 => 119 | 266 => 130 | n => n, fun | 9 => 9 | 21 => 21 | 4 => 4 | 3 => 3 | 5 => 5 | 0 => 0 | 46 => 56 | n => n, fun | n => n⟩
def Tryd.lays227_ren : Go.Shelf.Ren := ⟨fun | 227 => 76 | n => n, fun | 9 => 9 | 116 => 125 | 4 => 4 | 0 => 0 | 3 => 3 | 5 => 5 | n => n, fun | n => n⟩
def Tryd.lays228_ren : Go.Shelf.Ren := ⟨fun | 228 => 99 | n => n, fun | 124 => 129 | 5 => 5 | 4 => 4 | 0 => 0 | 116 => 125 | n => n, fun | n => n⟩
def Tryd.lays260_ren : Go.Shelf.Ren := ⟨fun | 260 => 120 | n => n, fun | 9 => 9 | 21 => 21 | 3 => 3 | 4 => 4 | 5 => 5 | 119 => 175 | 0 => 0 | 46 => 56 | 139 => 178 | 138 => 177 | n => n, fun | 3 => 4 | 4 => 5 | n => n⟩
def Tryd.lays271_ren : Go.Shelf.Ren := ⟨fun | 271 => 102 | 120 => 122 | 197 => 100 | 260 => 120 | n => n, fun | 9 => 9 | 21 => 21 | 3 => 3 | 4 => 4 | 5 => 5 | 105 => 146 | 119 => 175 | 0 => 0 | 46 => 56 | 139 => 178 | 138 => 177 | n => n, fun | 3 => 4 | 4 => 5 | n => n⟩
def Tryd.laysNm237_ren : Go.Shelf.Ren := ⟨fun | 37 => 118 | n => n, fun | 3 => 3 | 4 => 4 | n => n, fun | n => n⟩
def Tryd.laysNm231_ren : Go.Shelf.Ren := ⟨fun | 31 => 90 | 37 => 118 | n => n, fun | 3 => 3 | 4 => 4 | n => n, fun | n => n⟩
open Go.RowKit Go.Sort in
theorem Tryd.slices_Sort_int_none (p : Option Addr) (cap : Nat) (w : World) :
  Calls Tryd.prog 43 #[.slice p 0 cap] w fun e w' => e = .returned (.tuple #[]) /\ w' = w := Any.slices_Sort_int_none Tryd.lays189 p cap w
end Go.Proofs
