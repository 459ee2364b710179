/- Types of records: plain laws for Decimal and Parse. -/
import Derived.Test.YtjhibbjafjhhjaaDoorKTyA
import Derived.Lib.ParseIntBCases
import Derived.Lib.SlTrimSet
namespace Go.Proofs.YtjhibbjafjhhjaaDoor
open Go.RowKit Go.Shelf
set_option maxRecDepth 100000
namespace Ty
def digs : List UInt8 := [48, 49, 50, 51, 52, 53, 54, 55, 56, 57]
end Ty
end Go.Proofs.YtjhibbjafjhhjaaDoor
