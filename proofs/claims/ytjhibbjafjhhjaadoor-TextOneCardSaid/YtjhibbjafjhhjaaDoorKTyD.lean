/- Types of records: what the laws know first. -/
import Derived.Test.YtjhibbjafjhhjaaDoorKTyB
import Derived.Test.YtjhibbjafjhhjaaDoorKTyC
namespace Go.Proofs.YtjhibbjafjhhjaaDoor
open Go.RowKit Go.Shelf
set_option maxRecDepth 100000
theorem text_at {t : Nat} {s : List UInt8} (h : Ty.text t = s) (ht : t < 9223372036854775808) (w : World) (hT : Tab w) : Calls Tryd.prog 16 #[.int .i64 t] w (Gives (S s) w) := by
 rw [<- h]; exact typeText_any t ht w hT
end Go.Proofs.YtjhibbjafjhhjaaDoor
