/- Zones: has a name a type; is a name there; from the origin down. -/
import Derived.Test.YtbgbahllhjelgaaGreatDoorKZnA
import Derived.Test.YtbgbahllhjelgaaGreatDoorKZnL
namespace Go.Proofs.YtbgbahllhjelgaaGreatDoor
open Go.RowKit Go.Shelf Go.Sort
set_option maxRecDepth 100000
def Blk (b : Nat) (cs : Array Value) (t : TypeId) (W : World) : Prop := W.heap[b]? = some (.cells cs t (0, 0))
theorem Blk.lt {b cs t W} (h : Blk b cs t W) : b < W.heap.size := (Array.getElem?_eq_some_iff.1 h).1
theorem Blk.below {b cs t} {W W' : World} (h : Blk b cs t W) (hb : Below W.heap.size W W') : Blk b cs t W' := (hb.block b h.lt).trans h
theorem Blk.new (W : World) (cs : Array Value) (t : TypeId) : Blk W.heap.size cs t (W.alloc (.cells cs t)) := World.alloc_heap_new W _
theorem Blk.alloc {b cs t W} (h : Blk b cs t W) (o : Obj) : Blk b cs t (W.alloc o) := (Below.heap_alloc W o b h.lt).trans h
theorem Blk.cell {b cs t W} (h : Blk b cs t W) (i : Nat) : W.cell? ⟨b, i, none⟩ = cs[i]? := by rw [cell_of_row W b i _ _ _ h]
theorem Blk.frozen {b cs t W} (h : Blk b cs t W) (i : Nat) : W.frozen? ⟨b, i, none⟩ = false := by unfold Blk at h; simp [World.frozen?, h]
def keepS (S : Nat -> Prop) (A B : World) : Prop := ∀ p : Addr, S p.block -> B.cell? p = A.cell? p
theorem keepS.refl (S : Nat -> Prop) (A : World) : keepS S A A := fun _ _ => rfl
theorem keepS.trans {S : Nat -> Prop} {A B C : World} (h : keepS S A B) (k : keepS S B C) : keepS S A C := fun p hp => (k p hp).trans (h p hp)
theorem keepS.put {S : Nat -> Prop} {L : Nat} (hL : ¬ S L) (A : World) (o : Obj) : keepS S A (A.putObj L o) := fun p hp => World.cell?_of_block (World.putObj_heap_other (fun e => hL (by rw [<- e]; exact hp)))
theorem keepS.set {S : Nat -> Prop} {b o : Nat} (hb : ¬ S b) (A : World) (u : Value) : keepS S A (A.setCell ⟨b, o, none⟩ u) := fun p hp => World.cell?_of_block (Below.heap_setCell _ _ _ _ (fun e => hb (by have e : p.block = b := e; rw [<- e]; exact hp)))
abbrev keepB (K0 : Nat) (A B : World) : Prop := keepS (fun b => b < K0) A B
theorem keepB.refl (K0 : Nat) (A : World) : keepB K0 A A := fun _ _ => rfl
theorem keepB.trans {K0 : Nat} {A B C : World} (h : keepB K0 A B) (k : keepB K0 B C) : keepB K0 A C := fun p hp => (k p hp).trans (h p hp)
theorem keepB.put {K0 L : Nat} (hL : K0 <= L) (A : World) (o : Obj) : keepB K0 A (A.putObj L o) := fun p hp => World.cell?_of_block (World.putObj_heap_other (fun e => by have : p.block < K0 := hp; omega))
theorem keepB.mono {K0 K1 : Nat} {A B : World} (h : keepB K1 A B) (hk : K0 <= K1) : keepB K0 A B := fun p hp => h p (Nat.lt_of_lt_of_le hp hk)
theorem Rd.keepB {v l} {ws W : World} (h : Rd v l ws) (hk : keepB ws.heap.size ws W) : Rd v l W := h.kept fun p hp => hk p hp
def dnY (ws : World) (n : List (List UInt8)) (k : Nat) (_ : World) (v : Array Value) (k' : Nat) : Prop := k = k' + 1 /\ k' <= n.length /\ ∃ o c, v = #[.slice o (n.length - k') c] /\ Rd (.slice o (n.length - k') c) (n.drop k') ws
end Go.Proofs.YtbgbahllhjelgaaGreatDoor
