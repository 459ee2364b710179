/- The walk of TypeCase. -/
import Derived.Test.YtjhibbjafjhhjaaDoorKTyD
namespace Go.Proofs.YtjhibbjafjhhjaaDoor
open Go.RowKit Go.Shelf
set_option maxRecDepth 100000
def TrE (w : World) (e : Ending) (w' : World) : Prop := e = .returned (.bool true) /\ Below w.heap.size w w'
theorem Ty.text_len (t : Nat) (h : t < 65536) : (Ty.text t).length <= 1000 := by
 have h1 : ∀ p ∈ Ty.names, p.2.length <= 1000 := by decide
 unfold Ty.text
 rcases hn : Ty.nameOf t with _ | s
 ·have := dec_len t (by omega)
  simp; omega
 ·exact h1 _ (Ty.nameOf_mem hn)
end Go.Proofs.YtjhibbjafjhhjaaDoor
