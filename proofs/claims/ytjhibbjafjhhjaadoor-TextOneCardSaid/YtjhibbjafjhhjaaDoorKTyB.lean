/- Types of records: rtype.Decimal, rtype.Parse. -/
import Derived.Test.YtjhibbjafjhhjaaDoorKTyP
import Derived.Shelf.Strings.SlTrimAscii
namespace Go.Proofs.YtjhibbjafjhhjaaDoor
open Go.RowKit Go.Shelf
set_option maxRecDepth 100000
def EV (w : World) : Prop := ∃ ev, w.cell? ⟨2, 0, none⟩ = some ev /\ (ev = .nilIface \/ ∃ te pe, ev = .iface te pe)
theorem EV.below {w W : World} (h : EV w) (hb : Below w.heap.size w W) : EV W := by
 obtain ⟨ev, h1, h2⟩ := h
 exact ⟨ev, (hb.cell (cell_lt h1)).trans h1, h2⟩
end Go.Proofs.YtjhibbjafjhhjaaDoor
