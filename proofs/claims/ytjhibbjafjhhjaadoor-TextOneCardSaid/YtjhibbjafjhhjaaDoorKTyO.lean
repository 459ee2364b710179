/- A cell that is kept (as in ZnE, for seats without zones). -/
import Derived.Test.YtjhibbjafjhhjaaDoorKNmA
import Derived.Test.YtjhibbjafjhhjaaDoorKRow
namespace Go.Proofs.YtjhibbjafjhhjaaDoor
open Go.RowKit Go.Shelf
theorem cell_obj {W : World} {p : Addr} {x : Value} (h : W.cell? p = some x) : ∃ c t f, W.heap[p.block]? = some (.cells c t f) /\ p.spot = none /\ c[p.off]? = some x := by
 unfold World.cell? at h
 split at h
 ·rename_i c t f hc
  split at h
  ·cases h
  ·rename_i hs
   exact ⟨c, t, f, hc, by simpa using hs, h⟩
 ·cases h
theorem CellsKept.cell {W W' : World} (h : CellsKept W W') {p : Addr} {x : Value} (hc : W.cell? p = some x) : W'.cell? p = some x := by
 obtain ⟨c, t, f, h1, h2, h3⟩ := cell_obj hc
 unfold World.cell?
 rw [h _ _ _ _ h1]
 simp [h2, h3]
def Blk (b : Nat) (cs : Array Value) (t : TypeId) (W : World) : Prop := W.heap[b]? = some (.cells cs t (0, 0))
theorem Blk.lt {b cs t W} (h : Blk b cs t W) : b < W.heap.size := (Array.getElem?_eq_some_iff.1 h).1
theorem Blk.below {b cs t} {W W' : World} (h : Blk b cs t W) (hb : Below W.heap.size W W') : Blk b cs t W' := (hb.block b h.lt).trans h
theorem Blk.new (W : World) (cs : Array Value) (t : TypeId) : Blk W.heap.size cs t (W.alloc (.cells cs t)) := World.alloc_heap_new W _
theorem Blk.alloc {b cs t W} (h : Blk b cs t W) (o : Obj) : Blk b cs t (W.alloc o) := (Below.heap_alloc W o b h.lt).trans h
theorem Blk.cell {b cs t W} (h : Blk b cs t W) (i : Nat) : W.cell? ⟨b, i, none⟩ = cs[i]? := by rw [cell_of_row W b i _ _ _ h]
theorem Blk.frozen {b cs t W} (h : Blk b cs t W) (i : Nat) : W.frozen? ⟨b, i, none⟩ = false := by unfold Blk at h; simp [World.frozen?, h]
def Sl (v : Value) (cs : List Value) (W : World) : Prop := ∃ o cap, v = .slice o cs.length cap /\ cs.length <= cap /\ cap <= maxLen /\ (o = none -> cap = 0) /\ ∀ j (h : j < cs.length), ∃ a, o = some a /\ W.cell? (a.add j) = some cs[j]
theorem Sl.nil (W : World) : Sl (.slice none 0 0) [] W := ⟨none, 0, rfl, by simp, by unfold maxLen; omega, fun _ => rfl, fun j h => by simp at h⟩
theorem Row.sl {R e v xs W} (h : Row R e 1 v xs.length xs W) : Sl v xs W := by
 obtain ⟨⟨hl, ho⟩, _⟩ := h
 rcases ho with ⟨rfl, h0⟩ | ⟨g, cap, cur, rfl, _, hg, h1, h2, h3, h4⟩
 ·have : xs = [] := List.length_eq_zero_iff.1 h0
  subst this; exact Sl.nil W
 ·refine ⟨some ⟨g, 0, none⟩, cap, rfl, h1, h2, (fun h => by cases h), fun j hj => ⟨_, rfl, ?_⟩⟩
  have hadd : (⟨g, 0, none⟩ : Addr).add j = ⟨g, j, none⟩ := by unfold Addr.add; split <;> simp_all
  rw [hadd, cell_of_row W g j _ _ _ hg]
  have := congrArg (fun l => l[j]?) h4
  simp only [List.getElem?_take, Nat.mul_one, hj, if_true] at this
  rw [<- List.getElem?_eq_getElem hj, <- this]
  simp
end Go.Proofs.YtjhibbjafjhhjaaDoor
