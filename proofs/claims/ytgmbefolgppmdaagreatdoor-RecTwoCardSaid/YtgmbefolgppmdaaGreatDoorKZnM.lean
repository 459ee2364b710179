/- Zones: what the laws' arguments are, once they may be. -/
import Derived.Test.YtgmbefolgppmdaaGreatDoorKGr
namespace Go.Proofs.YtgmbefolgppmdaaGreatDoor
open Go.RowKit Go.Shelf Go.Sort
set_option maxRecDepth 100000
theorem rb_of {r : Rc.PRec} (ho : Nm.few r.owner = true) (hd : DF r) (hn : RN r) : RB r :=
 ⟨NB.few ho, ⟨by have := hd.names; omega, fun n h => NB.few (hd.name n h)⟩, ⟨by have := hd.nums; omega, hn.2⟩, by have := hd.texts; omega, hn.1⟩
end Go.Proofs.YtgmbefolgppmdaaGreatDoor
