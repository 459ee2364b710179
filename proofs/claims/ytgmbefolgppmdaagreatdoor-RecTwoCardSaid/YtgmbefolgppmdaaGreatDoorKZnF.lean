/- Zones: where a name lies; what encloses it; the star that it has. -/
import Derived.Test.YtgmbefolgppmdaaGreatDoorKZnD
namespace Go.Proofs.YtgmbefolgppmdaaGreatDoor
open Go.RowKit Go.Shelf Go.Sort
set_option maxRecDepth 100000
attribute [local go_sem] Oper.semAt_some
end Go.Proofs.YtgmbefolgppmdaaGreatDoor
