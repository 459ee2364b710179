/- Contracts of the shelf at this translation. -/
import Derived.Test.YtjhibbjafjhhjaaDoorKShelf
import Derived.Shelf.Small.Bits
import Derived.Shelf.Sort.Plain
import Derived.Shelf.Slices.In.SortNone
namespace Go.Proofs
open Go.Shelf
def Tryd.lays128_ren : Go.Shelf.Ren := ⟨fun | 128 => 92 | n => n, fun | 51 => 139 | 3 => 3 | 4 => 4 | 46 => 112 | 5 => 5 | 9 => 9 | n => n, fun | n => n⟩
def Tryd.lays125_ren : Go.Shelf.Ren := ⟨fun | 125 => 65 | 128 => 92 | 129 => 93 | n => n, fun | 46 => 112 | 3 => 3 | 51 => 139 | 53 => 82 | 4 => 4 | 5 => 5 | 9 => 9 | n => n, fun | n => n⟩
def Tryd.lays189_ren : Go.Shelf.Ren := ⟨fun | 189 => 42 | 125 => 65 | 257 => 64 | 128 => 92 | 129 => 93 | 294 => 83 | 295 => 84 | 296 => 85 | 297 => 86 | 298 => 87 | 299 => 88 | 216 => 89 | 300 => 90 | 301 => 91 | 328 => 112 | 329 => 113 | 330 => 114 | 331 => 115 | 332 => 116 | 215 => 117 | 343 => 128 | n => n, fun | 28 => 42 | 3 => 3 | 46 => 112 | 0 => 0 | 51 => 139 | 53 => 82 | 4 => 4 | 183 => 132 | 182 => 131 | 131 => 76 | 5 => 5 | 9 => 9 | 218 => 157 | 222 => 161 | 228 => 171 | 229 => 48 | n => n, fun | n => n⟩
end Go.Proofs
