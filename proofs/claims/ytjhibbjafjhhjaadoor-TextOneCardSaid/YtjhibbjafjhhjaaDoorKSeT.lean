/- Sets of records: a row of numbers sorted, each once; rset.Types. -/
import Derived.Test.YtjhibbjafjhhjaaDoorKGr
import Derived.Test.YtjhibbjafjhhjaaDoorKShelf2
import Derived.Lib.SlicesCompact
import Derived.Lib.RowBridge
namespace Go.Proofs.YtjhibbjafjhhjaaDoor
open Go.RowKit Go.Shelf Go.Sort
set_option maxRecDepth 100000
theorem Row.holds {R : Nat -> Prop} {e : TypeId} {n g cap : Nat} {zs : List Int} {W : World} (h : Row R e 1 (.slice (some ⟨g, 0, none⟩) n cap) n (zs.map I64) W) (hz : zs.length = n) : Sort.Holds (Value.int .i64) W g 0 zs.toArray /\ g < W.heap.size /\ n <= cap := by
 obtain ⟨⟨hl, ho⟩, hr⟩ := h
 rcases ho with ⟨h0, _⟩ | ⟨g', cap', cur, h0, hb, hg, h1, h2, h3, h4⟩
 ·cases h0
 ·cases h0
  refine ⟨fun j hj => ⟨?_, by simp [World.frozen?, hg]⟩, (Array.getElem?_eq_some_iff.1 hg).1, h1⟩
  have hj' : j < zs.length := by simpa using hj
  rw [Nat.zero_add, cell_of_row W g j _ _ _ hg]
  have := congrArg (fun l => l[j]?) h4
  simp only [List.getElem?_take, Nat.mul_one, show j < n by omega, if_true, List.getElem?_map, List.getElem?_eq_getElem hj', Option.map_some] at this
  rw [getElem!_pos zs.toArray j hj]
  simpa using this
end Go.Proofs.YtjhibbjafjhhjaaDoor
