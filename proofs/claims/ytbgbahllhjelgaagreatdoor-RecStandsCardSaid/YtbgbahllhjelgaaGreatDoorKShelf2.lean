/- Contracts of the shelf at this translation. -/
import Derived.Test.YtbgbahllhjelgaaGreatDoorKShelf
import Derived.Shelf.Strings.OnBuilder
namespace Go.Proofs
open Go.Shelf
def Tryz.lays156_ren : Go.Shelf.Ren := ⟨fun | 156 => 37 | 165 => 73 | 166 => 74 | 169 => 75 | 240 => 102 | 241 => 103 | 276 => 124 | 277 => 125 | n => n, fun | 31 => 22 | 9 => 9 | 3 => 3 | 4 => 4 | 0 => 0 | 20 => 20 | 72 => 102 | 76 => 106 | 70 => 100 | 37 => 27 | 75 => 105 | 127 => 125 | 164 => 144 | 5 => 5 | 80 => 108 | n => n, fun | n => n⟩
theorem Tryz.lays156 : Go.Proofs.Lays.n156 Tryz.prog Tryz.lays156_ren := {
 mixed := by kernel_rfl
 f156 := Tryz.func37.trans (congrArg some (by kernel_rfl))
 f165 := Tryz.func73.trans (congrArg some (by kernel_rfl))
 f166 := Tryz.func74.trans (congrArg some (by kernel_rfl))
 f169 := Tryz.func75.trans (congrArg some (by kernel_rfl))
 f240 := Tryz.func102.trans (congrArg some (by kernel_rfl))
 f241 := Tryz.func103.trans (congrArg some (by kernel_rfl))
 f276 := Tryz.func124.trans (congrArg some (by kernel_rfl))
 f277 := Tryz.func125.trans (congrArg some (by kernel_rfl))
 t0 := Tryz.underlying0
 a0 := Tryz.isAgg0
 z0 := Tryz.sizeOf0
 v0 := Tryz.zeroValue0
 t3 := Tryz.underlying3
 a3 := Tryz.isAgg3
 z3 := Tryz.sizeOf3
 v3 := Tryz.zeroValue3
 t4 := Tryz.underlying4
 a4 := Tryz.isAgg4
 z4 := Tryz.sizeOf4
 v4 := Tryz.zeroValue4
 t9 := Tryz.underlying9
 a9 := Tryz.isAgg9
 z9 := Tryz.sizeOf9
 v9 := Tryz.zeroValue9
 t20 := Tryz.underlying20
 a20 := Tryz.isAgg20
 z20 := Tryz.sizeOf20
 v20 := Tryz.zeroValue20
 t31 := Tryz.underlying22
 a31 := Tryz.isAgg22
 z31 := Tryz.sizeOf22
 v31 := Tryz.zeroValue22
 t37 := Tryz.underlying27
 a37 := Tryz.isAgg27
 z37 := Tryz.sizeOf27
 v37 := Tryz.zeroValue27
 t70 := Tryz.underlying100
 a70 := Tryz.isAgg100
 z70 := Tryz.sizeOf100
 v70 := Tryz.zeroValue100
 t72 := Tryz.underlying102
 a72 := Tryz.isAgg102
 z72 := Tryz.sizeOf102
 v72 := Tryz.zeroValue102
 t75 := Tryz.underlying105
 a75 := Tryz.isAgg105
 z75 := Tryz.sizeOf105
 v75 := Tryz.zeroValue105
 t76 := Tryz.underlying106
 a76 := Tryz.isAgg106
 z76 := Tryz.sizeOf106
 v76 := Tryz.zeroValue106
 t127 := Tryz.underlying125
 a127 := Tryz.isAgg125
 z127 := Tryz.sizeOf125
 v127 := Tryz.zeroValue125
 t164 := Tryz.underlying144
 a164 := Tryz.isAgg144
 z164 := Tryz.sizeOf144
 v164 := Tryz.zeroValue144 }
theorem Tryz.Builder_Extra_156 : Builder.Extra Tryz.prog Tryz.lays156_ren := {
 sizeBuilder := by kernel_rfl
 liesBuilder := by kernel_rfl
 t5 := Tryz.underlying5
 a5 := Tryz.isAgg5
 z5 := Tryz.sizeOf5
 v5 := Tryz.zeroValue5
 infoByte := by kernel_rfl
 cellsByte := by kernel_rfl
 sizeByte := by kernel_rfl
 neB5 := by decide }
open Go.RowKit in
theorem Tryz.strings_Join (bk o c : Nat) (xs : List ByteArray) (sep : ByteArray) (w : World) (hcells : ∀ (j : Nat) x, xs[j]? = some x -> w.cell? ⟨bk, o + j, none⟩ = some (.string x)) (hbk : bk < w.heap.size) (hN : xs.length <= 140737488355328) (hcap : xs.length <= c) (hlen : (Lib.join (xs.map (·.data.toList)) sep.data.toList).length <= 140737488355328) :
  Calls Tryz.prog 37 #[.slice (some ⟨bk, o, none⟩) xs.length c, .string sep] w fun e w' => e = .returned (.string ⟨(Lib.join (xs.map (·.data.toList)) sep.data.toList).toArray⟩) /\ Below w.heap.size w w' := Any.strings_Join Tryz.lays156 Tryz.Builder_Extra_156 bk o c xs sep w hcells hbk hN hcap hlen
end Go.Proofs
