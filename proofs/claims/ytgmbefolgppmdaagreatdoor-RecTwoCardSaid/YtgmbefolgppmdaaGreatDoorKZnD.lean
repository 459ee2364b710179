/- Zones: has a name a type; is a name there; from the origin down. -/
import Derived.Test.YtgmbefolgppmdaaGreatDoorKZnA
import Derived.Test.YtgmbefolgppmdaaGreatDoorKZnL
section
namespace Go.Proofs.YtgmbefolgppmdaaGreatDoor
open Go.RowKit Go.Shelf Go.Sort
set_option maxRecDepth 100000
def Blk (b : Nat) (cs : Array Value) (t : TypeId) (W : World) : Prop := W.heap[b]? = some (.cells cs t (0, 0))
theorem Blk.lt {b cs t W} (h : Blk b cs t W) : b < W.heap.size := (Array.getElem?_eq_some_iff.1 h).1
theorem Blk.below {b cs t} {W W' : World} (h : Blk b cs t W) (hb : Below W.heap.size W W') : Blk b cs t W' := (hb.block b h.lt).trans h
theorem Blk.new (W : World) (cs : Array Value) (t : TypeId) : Blk W.heap.size cs t (W.alloc (.cells cs t)) := World.alloc_heap_new W _
theorem Blk.alloc {b cs t W} (h : Blk b cs t W) (o : Obj) : Blk b cs t (W.alloc o) := (Below.heap_alloc W o b h.lt).trans h
theorem Blk.cell {b cs t W} (h : Blk b cs t W) (i : Nat) : W.cell? ⟨b, i, none⟩ = cs[i]? := by rw [cell_of_row W b i _ _ _ h]
theorem Blk.frozen {b cs t W} (h : Blk b cs t W) (i : Nat) : W.frozen? ⟨b, i, none⟩ = false := by unfold Blk at h; simp [World.frozen?, h]
def keepS (S : Nat -> Prop) (A B : World) : Prop := ∀ p : Addr, S p.block -> B.cell? p = A.cell? p
theorem keepS.refl (S : Nat -> Prop) (A : World) : keepS S A A := fun _ _ => rfl
theorem keepS.trans {S : Nat -> Prop} {A B C : World} (h : keepS S A B) (k : keepS S B C) : keepS S A C := fun p hp => (k p hp).trans (h p hp)
theorem keepS.put {S : Nat -> Prop} {L : Nat} (hL : ¬ S L) (A : World) (o : Obj) : keepS S A (A.putObj L o) := fun p hp => World.cell?_of_block (World.putObj_heap_other (fun e => hL (by rw [<- e]; exact hp)))
theorem keepS.set {S : Nat -> Prop} {b o : Nat} (hb : ¬ S b) (A : World) (u : Value) : keepS S A (A.setCell ⟨b, o, none⟩ u) := fun p hp => World.cell?_of_block (Below.heap_setCell _ _ _ _ (fun e => hb (by have e : p.block = b := e; rw [<- e]; exact hp)))
abbrev keepB (K0 : Nat) (A B : World) : Prop := keepS (fun b => b < K0) A B
theorem keepB.refl (K0 : Nat) (A : World) : keepB K0 A A := fun _ _ => rfl
theorem keepB.trans {K0 : Nat} {A B C : World} (h : keepB K0 A B) (k : keepB K0 B C) : keepB K0 A C := fun p hp => (k p hp).trans (h p hp)
theorem keepB.put {K0 L : Nat} (hL : K0 <= L) (A : World) (o : Obj) : keepB K0 A (A.putObj L o) := fun p hp => World.cell?_of_block (World.putObj_heap_other (fun e => by have : p.block < K0 := hp; omega))
theorem keepB.mono {K0 K1 : Nat} {A B : World} (h : keepB K1 A B) (hk : K0 <= K1) : keepB K0 A B := fun p hp => h p (Nat.lt_of_lt_of_le hp hk)
theorem Rd.keepB {v l} {ws W : World} (h : Rd v l ws) (hk : keepB ws.heap.size ws W) : Rd v l W := h.kept fun p hp => hk p hp
def dnY (ws : World) (n : List (List UInt8)) (k : Nat) (_ : World) (v : Array Value) (k' : Nat) : Prop := k = k' + 1 /\ k' <= n.length /\ ∃ o c, v = #[.slice o (n.length - k') c] /\ Rd (.slice o (n.length - k') c) (n.drop k') ws
end Go.Proofs.YtgmbefolgppmdaaGreatDoor
end
section
namespace Go.Proofs.YtgmbefolgppmdaaGreatDoor
open Go.RowKit Go.Shelf Go.Sort
set_option maxRecDepth 100000
attribute [local go_sem] Oper.semAt_some
theorem cell_obj {W : World} {p : Addr} {x : Value} (h : W.cell? p = some x) : ∃ c t f, W.heap[p.block]? = some (.cells c t f) /\ p.spot = none /\ c[p.off]? = some x := by
 unfold World.cell? at h
 split at h
 ·rename_i c t f hc
  split at h
  ·cases h
  ·rename_i hs
   exact ⟨c, t, f, hc, by simpa using hs, h⟩
 ·cases h
theorem CellsKept.cell {W W' : World} (h : CellsKept W W') {p : Addr} {x : Value} (hc : W.cell? p = some x) : W'.cell? p = some x := by
 obtain ⟨c, t, f, h1, h2, h3⟩ := cell_obj hc
 unfold World.cell?
 rw [h _ _ _ _ h1]
 simp [h2, h3]
theorem CellsKept.trans {A B C : World} (h : CellsKept A B) (k : CellsKept B C) : CellsKept A C := fun i c t f hi => k i c t f (h i c t f hi)
theorem Rd.cells_kept {v l} {W W' : World} (h : Rd v l W) (hk : CellsKept W W') : Rd v l W' := by
 obtain ⟨o, cap, h1, h2, h3, h4, h5⟩ := h
 refine ⟨o, cap, h1, h2, h3, h4, fun j hj => ?_⟩
 obtain ⟨a, ha, hc⟩ := h5 j hj
 exact ⟨a, ha, hk.cell hc⟩
theorem Rd.put {v l} {W : World} (h : Rd v l W) {L r} (hr : W.heap[L]? = some (.loop r)) (o : Obj) : Rd v l (W.putObj L o) := h.cells_kept (CellsKept.put hr o)
theorem Blk.put {b cs t W l r} (h : Blk b cs t W) (hr : W.heap[l]? = some (.loop r)) (o : Obj) : Blk b cs t (W.putObj l o) := CellsKept.put hr o _ _ _ _ h
theorem Blk.set {b cs t W} (h : Blk b cs t W) {c o : Nat} (hne : b ≠ c) (u : Value) : Blk b cs t (W.setCell ⟨c, o, none⟩ u) := (Below.heap_setCell _ _ _ _ hne).trans h
def CutX (B : Nat) (w ws : World) (n : List (List UInt8)) (res : Option Nat) (c : Code) (W : World) : Prop :=
 c = .ret /\ ∃ k v, res = some k /\ Rd v (n.drop k) W /\ Box (B + 1) 23 v W /\ Box (B + 2) 4 (.bool true) W /\ Below B w W /\ ws.heap.size <= W.heap.size
theorem CutX.put {B w ws n res L} (hL : ws.heap.size <= L) (hB : B <= ws.heap.size) {c : Code} {A : World} {r : Loop} (h : CutX B w ws n res c A) (hr : A.heap[L]? = some (.loop r)) (o : Obj) : CutX B w ws n res c (A.putObj L o) := by
 obtain ⟨h0, k, v, h1, h2, h3, h4, h5, h6⟩ := h
 exact ⟨h0, k, v, h1, h2.put hr o, h3.put hr o, h4.put hr o, below_put h5 (by omega) hr (by omega) o, by simpa using h6⟩
def CutR (o : Zn.Nam) (L : List Rc.PRec) (n : Zn.Nam) (w : World) (e : Ending) (w' : World) : Prop :=
 ∃ v, e = .returned (.tuple #[v, .bool (Zn.isCut o L n)]) /\ Rd v (Zn.cut o L n) w' /\ Below w.heap.size w w'
theorem leaveD {F : Fence} {n : Nat} {P : Program} {fn : Func} {R : Ending -> World -> Prop} {a : Act} {w : World} {v : Value} {b : Nat} (hd : a.defers = [{ target := .collected b, args := #[] }]) (hb : w.heap[b]? = some (.deferred (some []))) (hr : (results fn a.tmps).run P (w.putObj b (.deferred none)) = .ok v (w.putObj b (.deferred none))) (hR : R (.returned v) (w.putObj b (.deferred none))) : bodyPostM F n P fn R .ret a w := by
 show LeavesInM F n P fn a.tmps R a.defers .returning w
 rw [hd]
 exact ⟨by simp, .inl ⟨_, _, rfl, run_takeDeferred hb, v, hr, hR⟩⟩
end Go.Proofs.YtgmbefolgppmdaaGreatDoor
end
