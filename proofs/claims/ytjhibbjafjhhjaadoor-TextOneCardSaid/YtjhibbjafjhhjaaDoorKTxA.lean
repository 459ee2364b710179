/- Numbers in decimals: strconv.FormatUint, strconv.Itoa. -/
import Derived.Test.YtjhibbjafjhhjaaDoorKShelf
import Derived.Test.YtjhibbjafjhhjaaDoorKNmA
import Derived.Test.YtjhibbjafjhhjaaDoorKRow
import Derived.Lib.AppendIntMem
namespace Go.Proofs.YtjhibbjafjhhjaaDoor
open Go.RowKit Go.Shelf Go.Sort
set_option maxRecDepth 100000
def Tab (w : World) : Prop := Lib.TabIs Tryd.prog w "internal/strconv.uint64pow10" .u64 Lib.pow10Tab
theorem Tab.below {w W : World} (h : Tab w) (hb : Below w.heap.size w W) : Tab W := (Lib.tabBelow_of_tabIs h) W hb
theorem below_grow (w : World) (k : Nat) (os : Array Obj) : Below w.heap.size w (grow (w.drewN k) os) :=
 ⟨by simp [grow, World.drewN], by simp [grow, World.drewN], by simp [grow, World.drewN], by simp [grow, World.drewN], fun i hi => by
  show ((w.drewN k).heap ++ os)[i]? = _
  rw [Array.getElem?_append_left (by simpa [World.drewN] using hi)]; simp [World.drewN]⟩
theorem dec_len (t : Nat) (h : t < 18446744073709551616) : (Lib.decDigits t).length <= 20 := by
 rw [Lib.decDigits_length]
 by_cases h0 : t < 10
 ·rw [Lib.nDigits_small h0]; omega
 ·have := Lib.numDigits_eq t (by omega) h
  split at this <;> omega
theorem itoa_any (u : Nat) (h2 : u < 9223372036854775808) (w : World) (ht : Tab w) :
  Calls Tryd.prog 41 #[.int .i64 u] w (Gives (S (Lib.decDigits u)) w) := by
 refine (Tryd.strconv_Itoa u (by omega) (by omega) w ht).mono ?_
 rintro e w' ⟨rfl, k, os, rfl⟩
 exact ⟨by rw [Lib.itoa_nonneg], below_grow w k os⟩
end Go.Proofs.YtjhibbjafjhhjaaDoor
