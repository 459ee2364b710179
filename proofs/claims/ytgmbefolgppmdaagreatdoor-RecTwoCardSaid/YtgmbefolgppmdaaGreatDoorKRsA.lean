/- Sets of records: plain; rows of data in memory; a part of a row of records. -/
import Derived.Test.YtgmbefolgppmdaaGreatDoorKZnF
section
namespace Go.Proofs.YtgmbefolgppmdaaGreatDoor
open Go.RowKit Go.Shelf Go.Sort
set_option maxRecDepth 100000
namespace Rs
open Rc
def P (x y : PRec) : Bool := (x.type == y.type) && Nm.same x.owner y.owner
def run (x : PRec) (l : List PRec) : Nat := (l.takeWhile (P x)).length
def ttl (x : PRec) (l : List PRec) : Nat := l.foldl (fun m r => min m r.ttl) x.ttl
structure PSet where
 owner : List (List UInt8)
 type : Int
 ttl : Nat
 data : List PRec
def mk (x : PRec) (l : List PRec) : PSet := ⟨x.owner, x.type, ttl x (l.take (run x l)), l.take (run x l)⟩
def sets : Nat -> List PRec -> List PSet
 | 0, _ => []
 | _, [] => []
 | f + 1, x :: l => mk x (x :: l) :: sets f ((x :: l).drop (run x (x :: l)))
end Rs
def encD {w : World} (x : El w) : List Value := (encE x).drop 2
def DatsRd {w : World} (v : Value) (l : List (El w)) (W : World) : Prop :=
 ∃ o cap, v = .slice o l.length cap /\ l.length <= cap /\ cap <= maxLen /\ (o = none -> cap = 0) /\ ∀ j (h : j < (l.flatMap encD).length), ∃ a, o = some a /\ W.cell? (a.add j) = some (l.flatMap encD)[j]
theorem DatsRd.cells_kept {w : World} {v} {l : List (El w)} {W W' : World} (h : DatsRd v l W) (hk : CellsKept W W') : DatsRd v l W' := by
 obtain ⟨o, cap, h1, h2, h3, h4, h5⟩ := h
 refine ⟨o, cap, h1, h2, h3, h4, fun j hj => ?_⟩
 obtain ⟨a, ha, hc⟩ := h5 j hj
 exact ⟨a, ha, hk.cell hc⟩
theorem DatsRd.below {w : World} {v} {l : List (El w)} {W W' : World} (h : DatsRd v l W) (hb : Below W.heap.size W W') : DatsRd v l W' := h.cells_kept (CellsKept.below hb)
theorem DatsRd.nil {w : World} (W : World) : DatsRd (w := w) (.slice none 0 0) [] W := ⟨none, 0, rfl, by simp, by unfold maxLen; omega, fun _ => rfl, fun j h => by simp at h⟩
theorem DatsRd.form {w : World} {v} {l : List (El w)} {W : World} (h : DatsRd v l W) : ∃ o cap, v = .slice o l.length cap /\ l.length <= cap /\ cap <= maxLen := by
 obtain ⟨o, cap, h1, h2, h3, _⟩ := h; exact ⟨o, cap, h1, h2, h3⟩
section
variable {F : Fence} {n : Nat}
end
theorem DatsRd.set {w : World} {o : Option Addr} {n cap : Nat} {l : List (El w)} {W : World} (hv : DatsRd (.slice o n cap) l W) {b i : Nat} (hb : ∀ a, o = some a -> a.block ≠ b) (u : Value) : DatsRd (.slice o n cap) l (W.setCell ⟨b, i, none⟩ u) := by
 obtain ⟨o', cap', e0, h1, h2, h3, h4⟩ := hv
 refine ⟨o', cap', e0, h1, h2, h3, fun j hj => ?_⟩
 obtain ⟨a, ha, hc⟩ := h4 j hj
 have ho : o = some a := by cases e0; exact ha
 refine ⟨a, ha, ?_⟩
 rw [World.cell?_of_block (Below.heap_setCell _ _ _ _ (by rw [add_block]; exact hb a ho))]; exact hc
theorem flat_drop {α : Type} (enc : α -> List Value) (k : Nat) (hk : ∀ x, (enc x).length = k) (l : List α) (i : Nat) (hi : i <= l.length) : (l.drop i).flatMap enc = (l.flatMap enc).drop (i * k) := by
 have h1 : l.flatMap enc = (l.take i).flatMap enc ++ (l.drop i).flatMap enc := by rw [<- List.flatMap_append, List.take_append_drop]
 have h2 : ((l.take i).flatMap enc).length = i * k := by rw [flat_len enc k hk, List.length_take, Nat.min_eq_left hi]
 rw [h1, List.drop_append, h2, Nat.sub_self, List.drop_zero, List.drop_of_length_le (Nat.le_of_eq h2), List.nil_append]
theorem RecsRd.sub {w : World} {o : Option Addr} {cap : Nat} {l : List (El w)} {W : World} (h : RecsRd (.slice o l.length cap) (l.map (·.1)) W) (i j c : Nat) (hi : i <= j) (hj : j <= l.length) (hc : c <= cap - i) (hcl : j - i <= c) :
  RecsRd (.slice (o.map (·.add (i * 7))) (j - i) c) (((l.drop i).take (j - i)).map (·.1)) W := by
 obtain ⟨h0, o1, cap1, h1, h2, h3, h4, h5⟩ := h
 rw [List.length_map] at h1 h2
 cases h1
 have hl : ((l.drop i).take (j - i)).length = j - i := by simp; omega
 refine ⟨fun x hx => ?_, o.map (·.add (i * 7)), c, by rw [List.length_map, hl], by rw [List.length_map, hl]; omega, by omega, fun e => ?_, fun k hk => ?_⟩
 ·obtain ⟨y, hy, rfl⟩ := List.mem_map.1 hx
  exact h0 _ (List.mem_map_of_mem (List.mem_of_mem_drop (List.mem_of_mem_take hy)))
 ·have : o = none := by cases o with
   | none => rfl
   | some a => cases e
  have := h4 this; omega
 ·have hk' := hk
  rw [encP_map, flat_len encE 7 encE_len, hl] at hk'
  have hb : i * 7 + k < (encP (l.map (·.1))).length := by rw [encP_map, flat_len encE 7 encE_len]; omega
  obtain ⟨a, rfl, hcell⟩ := h5 (i * 7 + k) hb
  refine ⟨a.add (i * 7), rfl, ?_⟩
  rw [add_add', hcell, <- List.getElem?_eq_getElem hk, <- List.getElem?_eq_getElem hb, encP_map, encP_map]
  have e1 : ((l.drop i).take (j - i)).flatMap encE = ((l.drop i).flatMap encE).take ((j - i) * 7) := by
   have h1 : (l.drop i).flatMap encE = ((l.drop i).take (j - i)).flatMap encE ++ ((l.drop i).drop (j - i)).flatMap encE := by rw [<- List.flatMap_append, List.take_append_drop]
   have h2 : (((l.drop i).take (j - i)).flatMap encE).length = (j - i) * 7 := by rw [flat_len encE 7 encE_len, hl]
   rw [h1, <- h2, List.take_left]
  rw [e1, List.getElem?_take, if_pos hk', flat_drop encE 7 encE_len l i (by omega), List.getElem?_drop]
theorem RecsRd.tail {w : World} {o : Option Addr} {cap : Nat} {l : List (El w)} {W : World} (h : RecsRd (.slice o l.length cap) (l.map (·.1)) W) (i : Nat) (hi : i <= l.length) : RecsRd (.slice (o.map (·.add (i * 7))) (l.length - i) (cap - i)) ((l.drop i).map (·.1)) W := by
 have h' := h.sub i l.length (cap - i) hi (Nat.le_refl _) (Nat.le_refl _) (by obtain ⟨_, _, _, e, h1, _⟩ := h; rw [List.length_map] at e h1; cases e; omega)
 rwa [List.take_of_length_le (by simp)] at h'
theorem RecsRd.empty {w : World} (o : Option Addr) (W : World) : RecsRd (.slice o 0 0) (([] : List (El w)).map (·.1)) W := ⟨by simp, o, 0, rfl, by simp, by unfold maxLen; omega, fun _ => rfl, fun j h => by simp [encP] at h⟩
theorem RecsRd.init {w : World} {o : Option Addr} {cap : Nat} {l : List (El w)} {W : World} (h : RecsRd (.slice o l.length cap) (l.map (·.1)) W) (j : Nat) (hj : j <= l.length) : RecsRd (.slice o j cap) ((l.take j).map (·.1)) W := by
 have h' := h.sub 0 j cap (Nat.zero_le _) hj (by omega) (by obtain ⟨_, _, _, e, h1, _⟩ := h; rw [List.length_map] at e h1; cases e; omega)
 have e : o.map (·.add (0 * 7)) = o := by cases o <;> rfl
 rw [e, Nat.sub_zero, List.drop_zero] at h'
 exact h'
end Go.Proofs.YtgmbefolgppmdaaGreatDoor
end
section
namespace Go.Proofs.YtgmbefolgppmdaaGreatDoor
open Go.RowKit Go.Shelf Go.Sort
set_option maxRecDepth 100000
def keepH (S : Nat -> Prop) (A B : World) : Prop := ∀ b, S b -> B.heap[b]? = A.heap[b]?
theorem keepH.refl (S : Nat -> Prop) (A : World) : keepH S A A := fun _ _ => rfl
theorem keepH.trans {S : Nat -> Prop} {A B C : World} (h : keepH S A B) (k : keepH S B C) : keepH S A C := fun p hp => (k p hp).trans (h p hp)
theorem keepH.put {S : Nat -> Prop} {L : Nat} (hL : ¬ S L) (A : World) (o : Obj) : keepH S A (A.putObj L o) := fun b hb => World.putObj_heap_other (fun e => hL (by rw [<- e]; exact hb))
theorem keepH.set {S : Nat -> Prop} {b o : Nat} (hb : ¬ S b) (A : World) (u : Value) : keepH S A (A.setCell ⟨b, o, none⟩ u) := fun c hc => Below.heap_setCell _ _ _ _ (fun e => hb (by have e : c = b := e; rw [<- e]; exact hc))
theorem keepH.cell {S : Nat -> Prop} {A B : World} (h : keepH S A B) {p : Addr} (hp : S p.block) : B.cell? p = A.cell? p := World.cell?_of_block (h _ hp)
section
variable {w : World}
structure SetsAt (Sk : Nat -> Prop) (bl : Nat) (l : List (El w)) (W : World) : Prop where
 bx : ∃ o c, Box bl 34 (.slice o l.length c) W /\ RecsRd (.slice o l.length c) (l.map (·.1)) W /\ ∀ a, o = some a -> 0 < l.length -> Sk a.block /\ a.block ≠ bl
 below : Below w.heap.size w W
def setKp (w : World) (Sk : Nat -> Prop) (A B : World) : Prop := keepH Sk A B /\ (Below w.heap.size w A -> Below w.heap.size w B)
theorem setKp.trans {Sk : Nat -> Prop} {A B C : World} (h : setKp w Sk A B) (k : setKp w Sk B C) : setKp w Sk A C := ⟨h.1.trans k.1, fun x => k.2 (h.2 x)⟩
theorem setKp.refl (Sk : Nat -> Prop) (A : World) : setKp w Sk A A := ⟨keepH.refl _ _, id⟩
theorem setKp.put {Sk : Nat -> Prop} {L : Nat} (hL : ¬ Sk L) (hw : w.heap.size <= L) (A : World) (o : Obj) : setKp w Sk A (A.putObj L o) :=
 ⟨keepH.put hL A o, fun h => h.grown (grownBy_putObj' A L o) h.size (fun k e => by cases e; exact hw)⟩
theorem SetsAt.on {Sk : Nat -> Prop} {bl : Nat} {l : List (El w)} {A B : World} (h : SetsAt Sk bl l A) (hb : Below A.heap.size A B) : SetsAt Sk bl l B := by
 obtain ⟨⟨o, c, h1, h2, h3⟩, h4⟩ := h
 exact ⟨⟨o, c, h1.below hb, h2.kept hb, h3⟩, below5 h4 hb⟩
def setSt (bl : Nat) (A B : World) : Prop := A.grownBy B (some bl) /\ ∃ c t f, A.heap[bl]? = some (.cells c t f)
theorem setSt.others {bl : Nat} {A B : World} (h : setSt bl A B) : KeepsOthers A B := KeepsOthers.of_grownBy h.1 fun j o hj ho => by
 cases hj
 obtain ⟨c, t, f, hc⟩ := h.2
 rw [hc] at ho; cases ho; rfl
def setY (bl : Nat) (k : List (El w)) (A : World) (v : Array Value) (k' : List (El w)) : Prop :=
 ∃ x xs n, k = x :: xs /\ n = Rs.run x.1.2 (plE k) /\ n <= k.length /\ k' = k.drop n /\ ∃ vo od cd, v = #[.agg #[vo, .int .i64 x.1.2.type, .int .u32 ((Rs.ttl x.1.2 (plE (k.take n)) : Nat) : Int), .slice od n cd]] /\ Rd vo x.1.2.owner w /\ DatsRd (.slice od n cd) (k.take n) A /\ ∀ a, od = some a -> bl < a.block /\ ∃ cur f, A.heap[a.block]? = some (.cells cur 29 f)
def lenAt (bl : Nat) (W : World) : Nat := match W.cell? ⟨bl, 0, none⟩ with
 | some (.slice _ n _) => n
 | _ => 0
theorem Blk.setAt {b cs t W} (h : Blk b cs t W) (i : Nat) (u : Value) : Blk b (cs.setIfInBounds i u) t (W.setCell ⟨b, i, none⟩ u) := by
 unfold Blk at *; simp [World.setCell, Array.getElem?_modify, h]
def Bx4 (b : Nat) (s0 s1 s2 s3 : Value) (W : World) : Prop := W.cell? ⟨b, 0, none⟩ = some s0 /\ W.cell? ⟨b, 1, none⟩ = some s1 /\ W.cell? ⟨b, 2, none⟩ = some s2 /\ W.cell? ⟨b, 3, none⟩ = some s3
def Bxa7 (e : Addr) (c0 c1 c2 c3 c4 c5 c6 : Value) (W : World) : Prop :=
 W.cell? e = some c0 /\ W.cell? ⟨e.block, e.off + 1, none⟩ = some c1 /\ W.cell? ⟨e.block, e.off + 2, none⟩ = some c2 /\ W.cell? ⟨e.block, e.off + 3, none⟩ = some c3 /\ W.cell? ⟨e.block, e.off + 4, none⟩ = some c4 /\ W.cell? ⟨e.block, e.off + 5, none⟩ = some c5 /\ W.cell? ⟨e.block, e.off + 6, none⟩ = some c6
theorem Bx4.of {b s0 s1 s2 s3 t W} (h : Blk b #[s0, s1, s2, s3] t W) : Bx4 b s0 s1 s2 s3 W := ⟨h.cell 0, h.cell 1, h.cell 2, h.cell 3⟩
def Rg (bl : Nat) (vl : Value) (b : Nat) (s0 s1 s2 s3 : Value) (e : Addr) (c0 c1 c2 c3 c4 c5 c6 : Value) (W : World) : Prop := W.cell? ⟨bl, 0, none⟩ = some vl /\ Bx4 b s0 s1 s2 s3 W /\ Bxa7 e c0 c1 c2 c3 c4 c5 c6 W
theorem Rg.kept {bl vl b s0 s1 s2 s3 e c0 c1 c2 c3 c4 c5 c6} {W W' : World} (h : Rg bl vl b s0 s1 s2 s3 e c0 c1 c2 c3 c4 c5 c6 W) (k : CellsKept W W') : Rg bl vl b s0 s1 s2 s3 e c0 c1 c2 c3 c4 c5 c6 W' := by
 obtain ⟨h0, ⟨a0, a1, a2, a3⟩, b0, b1, b2, b3, b4, b5, b6⟩ := h
 exact ⟨k.cell h0, ⟨k.cell a0, k.cell a1, k.cell a2, k.cell a3⟩, k.cell b0, k.cell b1, k.cell b2, k.cell b3, k.cell b4, k.cell b5, k.cell b6⟩
theorem SetsAt.next {Sk : Nat -> Prop} {bl : Nat} {k : List (El w)} {W : World} (h : SetsAt Sk bl k W) (hbl : w.heap.size <= bl) {o : Option Addr} {c : Nat} (hb : Box bl 34 (.slice o k.length c) W) (n : Nat) (hn : n <= k.length) (o' : Option Addr) (c' : Nat)
  (h' : RecsRd (.slice o' (k.length - n) c') ((k.drop n).map (·.1)) W) (ho : ∀ a', o' = some a' -> ∃ a, o = some a /\ a'.block = a.block) : SetsAt Sk bl (k.drop n) (W.setCell ⟨bl, 0, none⟩ (.slice o' (k.length - n) c')) := by
 obtain ⟨⟨o1, c1, h1, _, h3⟩, h4⟩ := h
 have e : (Value.slice o1 k.length c1) = .slice o k.length c := by
  have := h1.cell; rw [hb.cell] at this; exact (Option.some.inj this).symm
 cases e
 have hbW : Below w.heap.size w (W.setCell ⟨bl, 0, none⟩ (.slice o' (k.length - n) c')) := h4.setCell (p := ⟨bl, 0, none⟩) hbl _
 have hoo : ∀ a', o' = some a' -> 0 < (k.drop n).length -> Sk a'.block /\ a'.block ≠ bl := fun a' ha hp => by
  obtain ⟨a, ha1, ha2⟩ := ho a' ha
  rw [List.length_drop] at hp
  rw [ha2]; exact h3 a ha1 (by omega)
 refine ⟨⟨o', c', by rw [List.length_drop]; exact h1.set _, ⟨fun x hx => ?_, ?_⟩, hoo⟩, hbW⟩
 ·obtain ⟨y, _, rfl⟩ := List.mem_map.1 hx
  exact y.2.1.below hbW
 ·obtain ⟨_, o2, c2, e1, e2, e3, e4, e5⟩ := h'
  rw [List.length_map, List.length_drop] at e1
  refine ⟨o2, c2, by rw [List.length_map, List.length_drop]; exact e1, e2, e3, e4, fun j hj => ?_⟩
  obtain ⟨a2, ha, hc⟩ := e5 j hj
  have : o' = some a2 := by cases e1; exact ha
  exact ⟨a2, ha, (World.cell?_of_block (Below.heap_setCell _ _ _ _ (by rw [add_block]; exact (hoo a2 this (by have := hj; rw [encP_map, flat_len encE 7 encE_len] at this; omega)).2))).trans hc⟩
theorem El.ownerRd (x : El w) {c0 : Value} {cs : List Value} (h : encE x = c0 :: cs) : Rd c0 x.1.2.owner w := by
 obtain ⟨vo, ds, h0, ho, _⟩ := x.2.1
 have : encE x = vo :: .int .u32 (x.1.2.ttl : Int) :: ds := h0
 rw [this] at h; cases h; exact ho
end
end Go.Proofs.YtgmbefolgppmdaaGreatDoor
end
