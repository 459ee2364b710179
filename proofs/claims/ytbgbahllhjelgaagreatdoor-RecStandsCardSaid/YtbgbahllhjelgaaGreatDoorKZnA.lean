
import Derived.Test.YtbgbahllhjelgaaGreatDoorKRcH
section
/- Zones: is there a record such that .. -/
namespace Go.Proofs.YtbgbahllhjelgaaGreatDoor
open Go.RowKit Go.Shelf Go.Sort
set_option maxRecDepth 100000
def Zn.firstAt (p : Rc.PRec -> Bool) : List Rc.PRec -> Nat -> Int
 | [], _ => -1
 | x :: l, k => if p x then (k : Int) else Zn.firstAt p l (k + 1)
end Go.Proofs.YtbgbahllhjelgaaGreatDoor
end
section
/- Zones: made; whether a name is there. -/
namespace Go.Proofs.YtbgbahllhjelgaaGreatDoor
open Go.RowKit Go.Shelf Go.Sort
set_option maxRecDepth 100000
def El.up {w w' : World} (hb : Below w.heap.size w w') (x : El w) : El w' := ⟨x.1, x.2.1.below hb, x.2.2⟩
theorem up_fst {w w' : World} (hb : Below w.heap.size w w') (l : List (El w)) : (l.map (El.up hb)).map (·.1) = l.map (·.1) := by simp [El.up, Function.comp_def]
theorem up_pl {w w' : World} (hb : Below w.heap.size w w') (l : List (El w)) : plE (l.map (El.up hb)) = plE l := by simp [plE, El.up, Function.comp_def]
theorem down_list {w w0 : World} (l1 : List (El w0)) (h : ∀ x ∈ l1, RecRd x.1.1 x.1.2 w) : ∃ l' : List (El w), l'.map (·.1) = l1.map (·.1) /\ plE l' = plE l1 /\ l'.length = l1.length := by
 induction l1 with
 | nil => exact ⟨[], rfl, rfl, rfl⟩
 | cons x l1 ih =>
  obtain ⟨l', h1, h2, h3⟩ := ih (fun y hy => h y (List.mem_cons_of_mem _ hy))
  refine ⟨⟨x.1, h x List.mem_cons_self, x.2.2⟩ :: l', by simp [h1], ?_, by simp [h3]⟩
  simp only [plE, List.map_cons] at h2 ⊢
  rw [h2]
end Go.Proofs.YtbgbahllhjelgaaGreatDoor
end
section
/- Zones: has a name a type. -/
namespace Go.Proofs.YtbgbahllhjelgaaGreatDoor
open Go.RowKit Go.Shelf Go.Sort
set_option maxRecDepth 100000
end Go.Proofs.YtbgbahllhjelgaaGreatDoor
end
