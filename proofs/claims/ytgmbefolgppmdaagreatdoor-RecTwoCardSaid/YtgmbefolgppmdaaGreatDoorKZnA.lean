/- Zones: is there a record such that .. -/
import Derived.Test.YtgmbefolgppmdaaGreatDoorKRcH
section
namespace Go.Proofs.YtgmbefolgppmdaaGreatDoor
open Go.RowKit Go.Shelf Go.Sort
set_option maxRecDepth 100000
def Zn.firstAt (p : Rc.PRec -> Bool) : List Rc.PRec -> Nat -> Int
 | [], _ => -1
 | x :: l, k => if p x then (k : Int) else Zn.firstAt p l (k + 1)
end Go.Proofs.YtgmbefolgppmdaaGreatDoor
end
section
namespace Go.Proofs.YtgmbefolgppmdaaGreatDoor
open Go.RowKit Go.Shelf Go.Sort
set_option maxRecDepth 100000
def El.up {w w' : World} (hb : Below w.heap.size w w') (x : El w) : El w' := ⟨x.1, x.2.1.below hb, x.2.2⟩
theorem up_fst {w w' : World} (hb : Below w.heap.size w w') (l : List (El w)) : (l.map (El.up hb)).map (·.1) = l.map (·.1) := by simp [El.up, Function.comp_def]
theorem up_pl {w w' : World} (hb : Below w.heap.size w w') (l : List (El w)) : plE (l.map (El.up hb)) = plE l := by simp [plE, El.up, Function.comp_def]
end Go.Proofs.YtgmbefolgppmdaaGreatDoor
end
section
namespace Go.Proofs.YtgmbefolgppmdaaGreatDoor
open Go.RowKit Go.Shelf Go.Sort
set_option maxRecDepth 100000
end Go.Proofs.YtgmbefolgppmdaaGreatDoor
end
