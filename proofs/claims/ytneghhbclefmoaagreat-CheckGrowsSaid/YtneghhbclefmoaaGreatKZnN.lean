/- The walk of ZoneWays. -/
import Derived.Test.YtneghhbclefmoaaGreatKZnM
namespace Go.Proofs.YtneghhbclefmoaaGreat
open Go.RowKit Go.Shelf Go.Sort
set_option maxRecDepth 100000
def Tr (w : World) (e : Ending) (w' : World) : Prop := e = .returned (.bool true) /\ Below w.heap.size w w'
end Go.Proofs.YtneghhbclefmoaaGreat
