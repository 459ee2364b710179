/- Types of records: rtype.All. -/
import Derived.Test.YtjhibbjafjhhjaaDoorKTyA
import Derived.Test.YtjhibbjafjhhjaaDoorKSeT
namespace Go.Proofs.YtjhibbjafjhhjaaDoor
open Go.RowKit Go.Shelf Go.Sort
set_option maxRecDepth 100000
def Ty.keys : List Int := [1, 2, 5, 6, 12, 15, 16, 28, 39]
end Go.Proofs.YtjhibbjafjhhjaaDoor
