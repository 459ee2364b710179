/- Cells and what they hold (as in SfB, for seats without sets). -/
import Derived.Test.YtbgbahllhjelgaaGreatDoorKZnM
namespace Go.Proofs.YtbgbahllhjelgaaGreatDoor
open Go.RowKit Go.Shelf Go.Sort
theorem plE_len {w : World} (l : List (El w)) : (plE l).length = l.length := by simp [plE]
def Cs : List (Addr × Value) -> World -> Prop
 | [], _ => True
 | p :: l, W => W.cell? p.1 = some p.2 /\ Cs l W
theorem Cs.below : ∀ {l : List (Addr × Value)} {W W' : World}, Cs l W -> Below W.heap.size W W' -> Cs l W'
 | [], _, _, _, _ => trivial
 | _ :: _, _, _, h, hb => ⟨(hb.cell (cell_lt h.1)).trans h.1, Cs.below h.2 hb⟩
theorem Cs.drew : ∀ {l : List (Addr × Value)} {W : World}, Cs l W -> Cs l W.drew
 | [], _, _ => trivial
 | _ :: _, _, h => ⟨h.1, Cs.drew h.2⟩
theorem Row.some_block {R e sz v n xs W} (h : Row R e sz v n xs W) (hn : 0 < n) : ∃ g cap, v = .slice (some ⟨g, 0, none⟩) n cap := by
 obtain ⟨⟨_, ho⟩, _⟩ := h
 rcases ho with ⟨rfl, h0⟩ | ⟨g, cap, cur, rfl, _⟩
 ·omega
 ·exact ⟨g, cap, rfl⟩
end Go.Proofs.YtbgbahllhjelgaaGreatDoor
