/- Words and small facts that the walks share: no bytes, no strings.Builder. -/
import Derived.Test.YticljagcigiejaaShelf
import Derived.Test.YticljagcigiejaaRf
import Derived.WalkKit
import Derived.WalkSpells
import Derived.WalkLawsBesides
import Derived.OwnWalkIn
import Derived.TacticsInMore
import Derived.LoopNIn
import Derived.LoopIn
import Derived.Lib.Hide
import Derived.Lib.FrozenHead2
import Derived.Lib.OthersKept
import Derived.Maps.AppendAt
namespace Go.Proofs.Yticljagcigiejaa
open Go.RowKit Go.Shelf
set_option maxRecDepth 100000

/-- a text as a value -/
abbrev S (l : List UInt8) : Value := .string ⟨l.toArray⟩
abbrev I64 (n : Int) : Value := .int .i64 n

theorem ret_int {k : IntKind} {a b : Int} (h : a = b) : Ending.returned (.int k a) = .returned (.int k b) := by rw [h]
theorem ret_bool {a b : Bool} (h : a = b) : Ending.returned (.bool a) = .returned (.bool b) := by rw [h]
theorem ret_S {a b : List UInt8} (h : a = b) : Ending.returned (S a) = .returned (S b) := by rw [h]

theorem bcell {W w1 : World} (hb : Below W.heap.size W w1) : (∀ b o, b < W.heap.size → w1.cell? ⟨b, o, none⟩ = W.cell? ⟨b, o, none⟩) ∧ (∀ b o, b < W.heap.size → w1.frozen? ⟨b, o, none⟩ = W.frozen? ⟨b, o, none⟩) :=
  ⟨fun b o h => hb.cell (p := ⟨b, o, none⟩) h, fun b o h => hb.frozen (p := ⟨b, o, none⟩) h⟩

@[go_sem] theorem getElem_S (l : List UInt8) (k : Nat) (h : k < (ByteArray.mk l.toArray).size) : (ByteArray.mk l.toArray)[k] = l[k]'h := rfl

theorem append_S (a b : List UInt8) : (ByteArray.mk a.toArray) ++ (ByteArray.mk b.toArray) = ⟨(a ++ b).toArray⟩ := by
  apply ByteArray.ext; simp [ByteArray.data_append]
theorem take_one (l : List UInt8) (k : Nat) (h : k < l.length) : (l.drop k).take 1 = [l[k]] := by
  rw [List.drop_eq_getElem_cons h]; rfl
@[go_sem] theorem take_sub_drop (l : List UInt8) (a : Nat) : (l.drop a).take (l.length - a) = l.drop a := List.take_of_length_le (by simp)
@[go_sem] theorem extract_S (l : List UInt8) (a b : Nat) : (ByteArray.mk l.toArray).extract a b = ⟨((l.drop a).take (b - a)).toArray⟩ := by
  rw [ByteArray.extract_mk]
theorem below_keepsOthers {W W' : World} (h : Below W.heap.size W W') : KeepsOthers W W' :=
  ⟨h.size, fun k o hk _ => (h.block k (Array.getElem?_eq_some_iff.1 hk).1).trans hk⟩

@[go_sem, simp] theorem wide_depth : Fence.wide.depth = none := rfl
@[go_sem, simp] theorem wide_fn (f : FuncId) : Fence.wide.fn f := trivial
@[go_sem, simp] theorem wide_fn' (f : FuncId) : Fence.wide.fn f = True := rfl

/-! ### what lies in memory across steps -/
/-- a block of one cell -/
def Box (b : Nat) (t : TypeId) (v : Value) (W : World) : Prop := W.heap[b]? = some (.cells #[v] t (0, 0))
theorem Box.lt {b t v W} (h : Box b t v W) : b < W.heap.size := (Array.getElem?_eq_some_iff.1 h).1
theorem Box.cell {b t v W} (h : Box b t v W) : W.cell? ⟨b, 0, none⟩ = some v := by unfold Box at h; simp [World.cell?, h]
theorem Box.frozen {b t v W} (h : Box b t v W) : W.frozen? ⟨b, 0, none⟩ = false := by unfold Box at h; simp [World.frozen?, h]
theorem Box.below {b t v} {W W' : World} (h : Box b t v W) (hb : Below W.heap.size W W') : Box b t v W' := (hb.block b h.lt).trans h
theorem Box.new (W : World) (t : TypeId) (v : Value) : Box W.heap.size t v (W.alloc (.cells #[v] t)) := World.alloc_heap_new W _
theorem Box.alloc {b t v W} (h : Box b t v W) (o : Obj) : Box b t v (W.alloc o) := (Below.heap_alloc W o b h.lt).trans h
theorem Box.put {b t v W l r} (h : Box b t v W) (hr : W.heap[l]? = some (.loop r)) (o : Obj) : Box b t v (W.putObj l o) := by
  have hne : b ≠ l := fun e => by unfold Box at h; rw [e, hr] at h; cases h
  exact (World.putObj_heap_other (by omega)).trans h
theorem Box.putD {b t v W l d} (h : Box b t v W) (hr : W.heap[l]? = some (.deferred d)) (o : Obj) : Box b t v (W.putObj l o) := by
  have hne : b ≠ l := fun e => by unfold Box at h; rw [e, hr] at h; cases h
  exact (World.putObj_heap_other (by omega)).trans h
theorem below_putD {n : Nat} {w W : World} (h : Below n w W) {l : Nat} (hl : n ≤ l) (hn : n ≤ W.heap.size) (o : Obj) : Below n w (W.putObj l o) :=
  h.grown (grownBy_putObj' W l o) hn (fun k e => by have := Option.some.inj e; omega)
theorem Box.others {b t v W W' e c} (h : Box b t v W) (ho : Lib.OthersKept e (some c) W W') (hb : b ≠ c) (ht : t ≠ e) : Box b t v W' :=
  ho b _ h (fun x => hb (by cases x; rfl)) (fun _ _ x => ht (by cases x; rfl))
theorem Box.set {b t v W} (h : Box b t v W) (u : Value) : Box b t u (W.setCell ⟨b, 0, none⟩ u) := by
  unfold Box at h ⊢; simp [World.setCell, Array.getElem?_modify, h]
theorem Box.setOther {b t v W} (h : Box b t v W) {c o : Nat} (hne : b ≠ c) (u : Value) : Box b t v (W.setCell ⟨c, o, none⟩ u) := (Below.heap_setCell _ _ _ _ hne).trans h
theorem below_put {n : Nat} {w W : World} (h : Below n w W) {l : Nat} (hl : n ≤ l) {r} (hr : W.heap[l]? = some (.loop r)) (hn : n ≤ W.heap.size) (o : Obj) : Below n w (W.putObj l o) :=
  h.grown (grownBy_putObj' W l o) hn (fun k e => by cases e; exact hl)
theorem keepsOthers_others {e c} {W W' : World} (hs : W.heap.size ≤ W'.heap.size) (ho : Lib.OthersKept e (some c) W W') (hc : ∃ x t f, W.heap[c]? = some (.cells x t f)) : KeepsOthers W W' := by
  obtain ⟨x, t, f, hc⟩ := hc
  refine ⟨hs, fun k o hk hn => ho k o hk (fun e => ?_) (fun _ _ e => ?_)⟩
  · cases e; rw [hc] at hk; cases hk; simp [Obj.isCells] at hn
  · subst e; simp [Obj.isCells] at hn
theorem others_below {e c} {W W' : World} (hb : Below W.heap.size W W') : Lib.OthersKept e c W W' := fun k _ hk _ _ => (hb.block k (Array.getElem?_eq_some_iff.1 hk).1).trans hk
/-- a cell of a block is as it was -/
def sameCell (b : Nat) (A B : World) : Prop := B.cell? ⟨b, 0, none⟩ = A.cell? ⟨b, 0, none⟩
theorem sameCell.trans {b : Nat} (A B C : World) (h : sameCell b A B) (k : sameCell b B C) : sameCell b A C := Eq.trans k h
theorem sameCell.put {b l : Nat} (h : b ≠ l) (A : World) (o : Obj) : sameCell b A (A.putObj l o) := by
  unfold sameCell World.cell?; rw [World.putObj_heap_other (by simpa using h)]
theorem Box.same {b t v W W'} (h : Box b t v W) (h' : Box b t v W') : sameCell b W W' := h'.cell.trans h.cell.symm
/-- whatever is cells lies as it lay -/
def CellsKept (W W' : World) : Prop := ∀ (k : Nat) (c : Array Value) (t : TypeId) (f : Nat × Nat), W.heap[k]? = some (Obj.cells c t f) → W'.heap[k]? = some (Obj.cells c t f)
theorem CellsKept.put {W : World} {l r} (hr : W.heap[l]? = some (.loop r)) (o : Obj) : CellsKept W (W.putObj l o) :=
  fun k c t f hk => (World.putObj_heap_other (fun e => by rw [e, hr] at hk; cases hk)).trans hk
theorem CellsKept.below {W W' : World} (hb : Below W.heap.size W W') : CellsKept W W' := fun k c t f hk => (hb.block k (Array.getElem?_eq_some_iff.1 hk).1).trans hk
theorem CellsKept.alloc (W : World) (o : Obj) : CellsKept W (W.alloc o) := fun k c t f hk => (Below.heap_alloc W o k (Array.getElem?_eq_some_iff.1 hk).1).trans hk
end Go.Proofs.Yticljagcigiejaa
