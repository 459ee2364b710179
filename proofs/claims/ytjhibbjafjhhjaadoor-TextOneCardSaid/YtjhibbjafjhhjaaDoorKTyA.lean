/- Types of records: what a text is of. -/
import Derived.Test.YtjhibbjafjhhjaaDoorKTySpec
import Derived.Test.YtjhibbjafjhhjaaDoorKLabA
import Derived.Test.YtjhibbjafjhhjaaDoorKTxC
import Derived.Test.YtjhibbjafjhhjaaDoorKReg
namespace Go.Proofs.YtjhibbjafjhhjaaDoor
open Go.RowKit Go.Shelf
set_option maxRecDepth 100000
def encRP (p : List UInt8 × Int) : List Value := [S p.1, .int .i64 p.2]
def Ty.types : List (List UInt8 × Int) := Ty.names.map fun p => (Lb.fold p.2, p.1)
end Go.Proofs.YtjhibbjafjhhjaaDoor
