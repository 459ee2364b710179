
import Derived.Test.YtbgbahllhjelgaaGreatDoorKZnE
section
/- Zones: where a name lies; what encloses it; the star that it has. -/
namespace Go.Proofs.YtbgbahllhjelgaaGreatDoor
open Go.RowKit Go.Shelf Go.Sort
set_option maxRecDepth 100000
attribute [local go_sem] Oper.semAt_some
end Go.Proofs.YtbgbahllhjelgaaGreatDoor
end
section
/- Zones: what encloses a name; the star that it has. -/
namespace Go.Proofs.YtbgbahllhjelgaaGreatDoor
open Go.RowKit Go.Shelf Go.Sort
set_option maxRecDepth 100000
attribute [local go_sem] Oper.semAt_some
end Go.Proofs.YtbgbahllhjelgaaGreatDoor
end
section
/- Zones: the star below what encloses a name. -/
namespace Go.Proofs.YtbgbahllhjelgaaGreatDoor
open Go.RowKit Go.Shelf Go.Sort
set_option maxRecDepth 100000
def SrcR (o : Zn.Nam) (L : List Rc.PRec) (n : Zn.Nam) (w : World) (e : Ending) (w' : World) : Prop :=
 ∃ v, e = .returned (.tuple #[v, .bool (Zn.isSrc o L n)]) /\ Rd v (Zn.src o L n) w' /\ Below w.heap.size w w'
end Go.Proofs.YtbgbahllhjelgaaGreatDoor
end
