/- Zones: the cut that a name is under; where a name lies. -/
import Derived.Test.YtbgbahllhjelgaaGreatDoorKZnD
namespace Go.Proofs.YtbgbahllhjelgaaGreatDoor
open Go.RowKit Go.Shelf Go.Sort
set_option maxRecDepth 100000
attribute [local go_sem] Oper.semAt_some
theorem cell_obj {W : World} {p : Addr} {x : Value} (h : W.cell? p = some x) : ∃ c t f, W.heap[p.block]? = some (.cells c t f) /\ p.spot = none /\ c[p.off]? = some x := by
 unfold World.cell? at h
 split at h
 ·rename_i c t f hc
  split at h
  ·cases h
  ·rename_i hs
   exact ⟨c, t, f, hc, by simpa using hs, h⟩
 ·cases h
theorem CellsKept.cell {W W' : World} (h : CellsKept W W') {p : Addr} {x : Value} (hc : W.cell? p = some x) : W'.cell? p = some x := by
 obtain ⟨c, t, f, h1, h2, h3⟩ := cell_obj hc
 unfold World.cell?
 rw [h _ _ _ _ h1]
 simp [h2, h3]
theorem CellsKept.trans {A B C : World} (h : CellsKept A B) (k : CellsKept B C) : CellsKept A C := fun i c t f hi => k i c t f (h i c t f hi)
theorem Rd.cells_kept {v l} {W W' : World} (h : Rd v l W) (hk : CellsKept W W') : Rd v l W' := by
 obtain ⟨o, cap, h1, h2, h3, h4, h5⟩ := h
 refine ⟨o, cap, h1, h2, h3, h4, fun j hj => ?_⟩
 obtain ⟨a, ha, hc⟩ := h5 j hj
 exact ⟨a, ha, hk.cell hc⟩
theorem Rd.put {v l} {W : World} (h : Rd v l W) {L r} (hr : W.heap[L]? = some (.loop r)) (o : Obj) : Rd v l (W.putObj L o) := h.cells_kept (CellsKept.put hr o)
theorem Blk.put {b cs t W l r} (h : Blk b cs t W) (hr : W.heap[l]? = some (.loop r)) (o : Obj) : Blk b cs t (W.putObj l o) := CellsKept.put hr o _ _ _ _ h
theorem Blk.set {b cs t W} (h : Blk b cs t W) {c o : Nat} (hne : b ≠ c) (u : Value) : Blk b cs t (W.setCell ⟨c, o, none⟩ u) := (Below.heap_setCell _ _ _ _ hne).trans h
def CutX (B : Nat) (w ws : World) (n : List (List UInt8)) (res : Option Nat) (c : Code) (W : World) : Prop :=
 c = .ret /\ ∃ k v, res = some k /\ Rd v (n.drop k) W /\ Box (B + 1) 23 v W /\ Box (B + 2) 4 (.bool true) W /\ Below B w W /\ ws.heap.size <= W.heap.size
theorem CutX.put {B w ws n res L} (hL : ws.heap.size <= L) (hB : B <= ws.heap.size) {c : Code} {A : World} {r : Loop} (h : CutX B w ws n res c A) (hr : A.heap[L]? = some (.loop r)) (o : Obj) : CutX B w ws n res c (A.putObj L o) := by
 obtain ⟨h0, k, v, h1, h2, h3, h4, h5, h6⟩ := h
 exact ⟨h0, k, v, h1, h2.put hr o, h3.put hr o, h4.put hr o, below_put h5 (by omega) hr (by omega) o, by simpa using h6⟩
def CutR (o : Zn.Nam) (L : List Rc.PRec) (n : Zn.Nam) (w : World) (e : Ending) (w' : World) : Prop :=
 ∃ v, e = .returned (.tuple #[v, .bool (Zn.isCut o L n)]) /\ Rd v (Zn.cut o L n) w' /\ Below w.heap.size w w'
theorem leaveD {F : Fence} {n : Nat} {P : Program} {fn : Func} {R : Ending -> World -> Prop} {a : Act} {w : World} {v : Value} {b : Nat} (hd : a.defers = [{ target := .collected b, args := #[] }]) (hb : w.heap[b]? = some (.deferred (some []))) (hr : (results fn a.tmps).run P (w.putObj b (.deferred none)) = .ok v (w.putObj b (.deferred none))) (hR : R (.returned v) (w.putObj b (.deferred none))) : bodyPostM F n P fn R .ret a w := by
 show LeavesInM F n P fn a.tmps R a.defers .returning w
 rw [hd]
 exact ⟨by simp, .inl ⟨_, _, rfl, run_takeDeferred hb, v, hr, hR⟩⟩
end Go.Proofs.YtbgbahllhjelgaaGreatDoor
