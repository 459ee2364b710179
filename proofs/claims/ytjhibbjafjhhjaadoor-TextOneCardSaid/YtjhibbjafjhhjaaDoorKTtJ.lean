/- The walk of TextOne. -/
import Derived.Test.YtjhibbjafjhhjaaDoorKTtI
section
namespace Go.Proofs.YtjhibbjafjhhjaaDoor
open Go.RowKit Go.Shelf
set_option maxRecDepth 100000
def KB (e : TypeId) (A B : World) : Prop := ∀ (b : Nat) c t f, t ≠ e -> t ≠ 30 -> A.heap[b]? = some (Obj.cells c t f) -> B.heap[b]? = some (Obj.cells c t f)
theorem KB.of_below {e : TypeId} {A B : World} (h : Below A.heap.size A B) : KB e A B := fun b _ _ _ _ _ hb => (h.block b (Array.getElem?_eq_some_iff.1 hb).1).trans hb
theorem KB.app {e : TypeId} {R : Nat -> Prop} {sz n i RB : Nat} {v u : Value} {xs : List Value} {rc : Array Value} {A B : World} (hrow : Row R e sz v n xs A) (hg : A.grownBy B v.ownBlock) (hr : Blk RB rc 30 A) : KB e A (B.setCell ⟨RB, i, none⟩ u) := fun b c t f h1 h2 hb => by
 have hb' : Blk b c t B \/ True := .inr trivial
 refine (Below.heap_setCell _ _ _ _ (fun eb => ?_)).trans ((hg.block _ (Array.getElem?_eq_some_iff.1 hb).1 (fun eb => ?_)).trans hb)
 ·have eb : b = RB := eb
  subst eb
  unfold Blk at hr
  rw [hr] at hb; cases hb; exact h2 rfl
 ·obtain ⟨c', f', h'⟩ := hrow.typ eb.symm
  rw [h'] at hb; cases hb; exact h1 rfl
theorem KB.blk {e t : TypeId} {A B : World} (h : KB e A B) {b : Nat} {cs : Array Value} (hb : Blk b cs t A) (h1 : t ≠ e) (h2 : t ≠ 30) : Blk b cs t B := h _ _ _ _ h1 h2 hb
def GwM {α : Type} (en : α -> List Value -> World -> Prop) (RB : Nat) (et : TypeId) (K : Nat) (l : List α) (k : Nat) (v : Value) (A : World) : Prop :=
 l.length = k /\ ∃ xs : List (List Value), xs.length = l.length /\ Row (fun g => RB < g) et K v k xs.flatten A /\ (∀ x ∈ xs, x.length = K /\ ∀ u ∈ x, u.oneCell' = true) /\ ∀ j (h : j < l.length) (h' : j < xs.length), en l[j] xs[j] A
theorem GwM.nil {α : Type} (en : α -> List Value -> World -> Prop) (RB : Nat) (et : TypeId) (K : Nat) (A : World) : GwM en RB et K [] 0 (.slice none 0 0) A := ⟨rfl, [], rfl, Row.nil _ _ _ _, by simp, fun j h => by simp at h⟩
theorem GwM.read {α : Type} {en : α -> List Value -> World -> Prop} {RB : Nat} {et : TypeId} {K : Nat} {l : List α} {k : Nat} {v : Value} {A : World} (h : GwM en RB et K l k v A) : LRd K en v l A := by
 obtain ⟨h0, xs, h1, h2, h3, h4⟩ := h
 have h5 : xs.length = k := by omega
 subst h5
 exact ⟨xs, h2.grd h3, h1, fun j hj hj' => h4 j hj hj'⟩
theorem GwM.kept {α : Type} {en : α -> List Value -> World -> Prop} {RB : Nat} {et e : TypeId} {K : Nat} {l : List α} {k : Nat} {v : Value} {A B : World} (h : GwM en RB et K l k v A) (hk : KB e A B) (h1 : et ≠ e) (h2 : et ≠ 30) (hen : ∀ a cs, en a cs A -> en a cs B) : GwM en RB et K l k v B := by
 obtain ⟨h0, xs, a1, a2, a3, a4⟩ := h
 exact ⟨h0, xs, a1, a2.typed (fun b c f hb => hk b c et f h1 h2 hb), a3, fun j hj hj' => hen _ _ (a4 j hj hj')⟩
theorem GwM.push {α : Type} {en : α -> List Value -> World -> Prop} {RB i : Nat} {et : TypeId} {K : Nat} {l : List α} {k : Nat} {v' u : Value} {B : World} {x : List Value} {y : α} (h0 : l.length = k) {xs : List (List Value)} (h1 : xs.length = l.length) (h3 : ∀ x ∈ xs, x.length = K /\ ∀ u ∈ x, u.oneCell' = true)
  (h4 : ∀ j (h : j < l.length) (h' : j < xs.length), en l[j] xs[j] (B.setCell ⟨RB, i, none⟩ u)) (hrow : Row (fun g => RB < g) et K v' (k + 1) (xs ++ [x]).flatten B) (hx : x.length = K /\ ∀ u ∈ x, u.oneCell' = true) (hy : en y x (B.setCell ⟨RB, i, none⟩ u)) :
  GwM en RB et K (l ++ [y]) (k + 1) v' (B.setCell ⟨RB, i, none⟩ u) := by
 refine ⟨by simp [h0], xs ++ [x], by simp [h1], Row.setOther hrow (by omega) _, fun z hz => ?_, fun j hj hj' => ?_⟩
 ·rcases List.mem_append.1 hz with hz | hz
  ·exact h3 z hz
  ·rw [List.mem_singleton] at hz; subst hz; exact hx
 ·by_cases hlt : j < l.length
  ·have hlt' : j < xs.length := by omega
   simp only [List.getElem_append_left hlt, List.getElem_append_left hlt']
   exact h4 j hlt hlt'
  ·have e : j = l.length := by simp at hj; omega
   subst e
   simp only [List.getElem_append_right (Nat.le_refl _), Nat.sub_self, List.getElem_cons_zero]
   rw [List.getElem_append_right (by omega)]
   simp only [h1, Nat.sub_self, List.getElem_cons_zero]
   exact hy
def encF1 (f : Tt.Fl) (cs : List Value) (W : World) : Prop := ∃ b, cs = [.int .i64 f.kind, .slice (some ⟨b, 0, none⟩) 1 1, .int .i64 f.type] /\ f.owner = [[97]] /\ Blk b #[S [97]] 9 W
def encS1 (s : Tt.Se) (cs : List Value) (W : World) : Prop := ∃ b p i, cs = [.int .i64 s.kind, .slice (some ⟨b, 0, none⟩) 1 1, .int .i64 s.type, .slice (some ⟨p, 0, none⟩) 1 1] /\ s.name = [[98]] /\ s.picks = [i] /\ Blk b #[S [98]] 9 W /\ Blk p #[.int .i64 i] 3 W
theorem rd_blk1 {b : Nat} {s : List UInt8} {W : World} (h : Blk b #[S s] 9 W) : Rd (.slice (some ⟨b, 0, none⟩) 1 1) [s] W := by
 refine ⟨_, _, rfl, Nat.le_refl _, by unfold maxLen; decide, (fun h => by cases h), fun j hj => ⟨_, rfl, ?_⟩⟩
 obtain rfl : j = 0 := by simp at hj; omega
 exact h.cell 0
theorem LRd.imp {α : Type} {k : Nat} {en en' : α -> List Value -> World -> Prop} {v : Value} {l : List α} {W : World} (h : LRd k en v l W) (hi : ∀ a cs, en a cs W -> en' a cs W) : LRd k en' v l W := by
 obtain ⟨xs, h1, h2, h3⟩ := h
 exact ⟨xs, h1, h2, fun j hj hj' => hi _ _ (h3 j hj hj')⟩
theorem encF1.fl {f : Tt.Fl} {cs : List Value} {W : World} (h : encF1 f cs W) : encFl f cs W := by
 obtain ⟨b, h1, h2, h3⟩ := h
 exact ⟨_, h1, by rw [h2]; exact rd_blk1 h3⟩
theorem encS1.se {s : Tt.Se} {cs : List Value} {W : World} (h : encS1 s cs W) : encSe s cs W := by
 obtain ⟨b, p, i, h1, h2, h3, h4, h5⟩ := h
 refine ⟨_, _, h1, by rw [h2]; exact rd_blk1 h4, ?_⟩
 rw [h3]
 refine ⟨_, _, rfl, Nat.le_refl _, by unfold maxLen; decide, (fun h => by cases h), fun j hj => ⟨_, rfl, ?_⟩⟩
 obtain rfl : j = 0 := by simp at hj; omega
 exact h5.cell 0
theorem KB.er {e : TypeId} {A B : World} (h : KB e A B) (h1 : 32 ≠ e) : ∀ a cs, encEr a cs A -> encEr a cs B := fun _ _ ⟨b, e1, hb⟩ => ⟨b, e1, h.blk hb h1 (by decide)⟩
theorem KB.f1 {e : TypeId} {A B : World} (h : KB e A B) (h1 : 9 ≠ e) : ∀ a cs, encF1 a cs A -> encF1 a cs B := fun _ _ ⟨b, e1, e2, hb⟩ => ⟨b, e1, e2, h.blk hb h1 (by decide)⟩
theorem KB.s1 {e : TypeId} {A B : World} (h : KB e A B) (h1 : 9 ≠ e) (h2 : 3 ≠ e) : ∀ a cs, encS1 a cs A -> encS1 a cs B := fun _ _ ⟨b, p, i, e1, e2, e3, hb, hp⟩ => ⟨b, p, i, e1, e2, e3, h.blk hb h1 (by decide), h.blk hp h2 (by decide)⟩
namespace Tt
def oneE (i : Nat) : Er := ⟨[122], i, 2⟩
def oneF (i : Nat) : Fl := ⟨1 + (i : Int) % 9, [[97]], 1 + i⟩
def oneS (i : Nat) : Se := ⟨5 + (i : Int) % 5, [[98]], 1, [(i : Int)]⟩
def up {α : Type} (f : Nat -> α) (k : Nat) : List α := (List.range k).map f
theorem up_len {α : Type} (f : Nat -> α) (k : Nat) : (up f k).length = k := by simp [up]
theorem up_next {α : Type} (f : Nat -> α) (k : Nat) : up f (k + 1) = up f k ++ [f k] := by simp [up, List.range_succ]
end Tt
structure OneM (w : World) (RB : Nat) (x y z : Nat) (v0 v1 v3 : Value) (ev : Int) (A : World) : Prop where
 e : GwM encEr RB 33 1 (Tt.up Tt.oneE x) x v0 A
 f : GwM encF1 RB 41 3 (Tt.up Tt.oneF y) y v1 A
 s : GwM encS1 RB 44 4 (Tt.up Tt.oneS z) z v3 A
 rb : Blk RB #[v0, v1, .slice none 0 0, v3, .int .i64 ev] 30 A
 below : Below w.heap.size w A
theorem OneM.on {w : World} {RB x y z : Nat} {v0 v1 v3 : Value} {ev : Int} {A B : World} (h : OneM w RB x y z v0 v1 v3 ev A) (hb : Below A.heap.size A B) : OneM w RB x y z v0 v1 v3 ev B :=
 have k : KB 4 A B := KB.of_below hb
 ⟨h.e.kept k (by decide) (by decide) (k.er (by decide)), h.f.kept k (by decide) (by decide) (k.f1 (by decide)), h.s.kept k (by decide) (by decide) (k.s1 (by decide) (by decide)), h.rb.below hb, below5 h.below hb⟩
theorem OneM.pushE {w : World} {RB x y z : Nat} {v0 v1 v3 v' : Value} {ev : Int} {A B : World} (h : OneM w RB x y z v0 v1 v3 ev A) (hRB : w.heap.size <= RB) {b : Nat} (hb : Blk b #[S [122], .int .i64 (x : Int), .int .i64 2] 32 A) {xs : List (List Value)} (h1 : xs.length = (Tt.up Tt.oneE x).length) (h2 : Row (fun g => RB < g) 33 1 v0 x xs.flatten A)
  (h3 : ∀ x ∈ xs, x.length = 1 /\ ∀ u ∈ x, u.oneCell' = true) (h4 : ∀ j (h : j < (Tt.up Tt.oneE x).length) (h' : j < xs.length), encEr (Tt.up Tt.oneE x)[j] xs[j] A) (hrow : Row (fun g => RB < g) 33 1 v' (x + 1) (xs ++ [[Value.pointer (some ⟨b, 0, none⟩)]]).flatten B) (hg : A.grownBy B v0.ownBlock) :
  OneM w RB (x + 1) y z v' v1 v3 ev (B.setCell ⟨RB, 0, none⟩ v') := by
 have k : KB 33 A (B.setCell ⟨RB, 0, none⟩ v') := KB.app h2 hg h.rb
 have hrb := (h.rb.rowKeep h2 hg (by decide)).setAt 0 v'
 refine ⟨?_, h.f.kept k (by decide) (by decide) (k.f1 (by decide)), h.s.kept k (by decide) (by decide) (k.s1 (by decide) (by decide)), hrb, Below.setCell (p := ⟨RB, 0, none⟩) (h.below.grown hg h.below.size (fun g hg => by have := h2.2 g hg; omega)) hRB _⟩
 rw [Tt.up_next]
 exact GwM.push (Tt.up_len _ _) h1 h3 (fun j hj hj' => k.er (by decide) _ _ (h4 j hj hj')) hrow ⟨rfl, by simp [Value.oneCell']⟩ ⟨b, rfl, k.blk hb (by decide) (by decide)⟩
theorem OneM.pushF {w : World} {RB x y z : Nat} {v0 v1 v3 v' : Value} {ev : Int} {A B : World} (h : OneM w RB x y z v0 v1 v3 ev A) (hRB : w.heap.size <= RB) {b : Nat} (hb : Blk b #[S [97]] 9 A) {xs : List (List Value)} (h1 : xs.length = (Tt.up Tt.oneF y).length) (h2 : Row (fun g => RB < g) 41 3 v1 y xs.flatten A)
  (h3 : ∀ x ∈ xs, x.length = 3 /\ ∀ u ∈ x, u.oneCell' = true) (h4 : ∀ j (h : j < (Tt.up Tt.oneF y).length) (h' : j < xs.length), encF1 (Tt.up Tt.oneF y)[j] xs[j] A) (hrow : Row (fun g => RB < g) 41 3 v' (y + 1) (xs ++ [[Value.int .i64 (1 + (y : Int) % 9), Value.slice (some ⟨b, 0, none⟩) 1 1, Value.int .i64 (1 + (y : Int))]]).flatten B) (hg : A.grownBy B v1.ownBlock) :
  OneM w RB x (y + 1) z v0 v' v3 ev (B.setCell ⟨RB, 1, none⟩ v') := by
 have k : KB 41 A (B.setCell ⟨RB, 1, none⟩ v') := KB.app h2 hg h.rb
 have hrb := (h.rb.rowKeep h2 hg (by decide)).setAt 1 v'
 refine ⟨h.e.kept k (by decide) (by decide) (k.er (by decide)), ?_, h.s.kept k (by decide) (by decide) (k.s1 (by decide) (by decide)), hrb, Below.setCell (p := ⟨RB, 1, none⟩) (h.below.grown hg h.below.size (fun g hg => by have := h2.2 g hg; omega)) hRB _⟩
 rw [Tt.up_next]
 exact GwM.push (Tt.up_len _ _) h1 h3 (fun j hj hj' => k.f1 (by decide) _ _ (h4 j hj hj')) hrow ⟨rfl, by simp [Value.oneCell']⟩ ⟨b, rfl, rfl, k.blk hb (by decide) (by decide)⟩
theorem OneM.pushS {w : World} {RB x y z : Nat} {v0 v1 v3 v' : Value} {ev : Int} {A B : World} (h : OneM w RB x y z v0 v1 v3 ev A) (hRB : w.heap.size <= RB) {b p : Nat} (hb : Blk b #[S [98]] 9 A) (hp : Blk p #[.int .i64 (z : Int)] 3 A) {xs : List (List Value)} (h1 : xs.length = (Tt.up Tt.oneS z).length) (h2 : Row (fun g => RB < g) 44 4 v3 z xs.flatten A)
  (h3 : ∀ x ∈ xs, x.length = 4 /\ ∀ u ∈ x, u.oneCell' = true) (h4 : ∀ j (h : j < (Tt.up Tt.oneS z).length) (h' : j < xs.length), encS1 (Tt.up Tt.oneS z)[j] xs[j] A) (hrow : Row (fun g => RB < g) 44 4 v' (z + 1) (xs ++ [[Value.int .i64 (5 + (z : Int) % 5), Value.slice (some ⟨b, 0, none⟩) 1 1, Value.int .i64 1, Value.slice (some ⟨p, 0, none⟩) 1 1]]).flatten B) (hg : A.grownBy B v3.ownBlock) :
  OneM w RB x y (z + 1) v0 v1 v' ev (B.setCell ⟨RB, 3, none⟩ v') := by
 have k : KB 44 A (B.setCell ⟨RB, 3, none⟩ v') := KB.app h2 hg h.rb
 have hrb := (h.rb.rowKeep h2 hg (by decide)).setAt 3 v'
 refine ⟨h.e.kept k (by decide) (by decide) (k.er (by decide)), h.f.kept k (by decide) (by decide) (k.f1 (by decide)), ?_, hrb, Below.setCell (p := ⟨RB, 3, none⟩) (h.below.grown hg h.below.size (fun g hg => by have := h2.2 g hg; omega)) hRB _⟩
 rw [Tt.up_next]
 exact GwM.push (Tt.up_len _ _) h1 h3 (fun j hj hj' => k.s1 (by decide) (by decide) _ _ (h4 j hj hj')) hrow ⟨rfl, by simp [Value.oneCell']⟩ ⟨b, p, _, rfl, rfl, rfl, k.blk hb (by decide) (by decide), k.blk hp (by decide) (by decide)⟩
theorem OneM.stop {w : World} {RB x y z : Nat} {v0 v1 v3 : Value} {ev : Int} {A : World} (h : OneM w RB x y z v0 v1 v3 ev A) (hRB : w.heap.size <= RB) (e2 : Int) : OneM w RB x y z v0 v1 v3 e2 (A.setCell ⟨RB, 4, none⟩ (.int .i64 e2)) := by
 have k : KB 4 A (A.setCell ⟨RB, 4, none⟩ (.int .i64 e2)) := fun b c t f _ h2 hb => (Below.heap_setCell _ _ _ _ (fun eb => by
  have eb : b = RB := eb
  subst eb
  have hr := h.rb
  unfold Blk at hr
  rw [hr] at hb; cases hb; exact h2 rfl)).trans hb
 exact ⟨h.e.kept k (by decide) (by decide) (k.er (by decide)), h.f.kept k (by decide) (by decide) (k.f1 (by decide)), h.s.kept k (by decide) (by decide) (k.s1 (by decide) (by decide)), h.rb.setAt 4 _, Below.setCell (p := ⟨RB, 4, none⟩) h.below hRB _⟩
end Go.Proofs.YtjhibbjafjhhjaaDoor
end
section
namespace Go.Proofs.YtjhibbjafjhhjaaDoor
open Go.RowKit Go.Shelf
set_option maxRecDepth 100000
namespace Tt
def mine (x y z : Nat) (ev : Int) : Rep := ⟨up oneE x, up oneF y, [], up oneS z, ev⟩
def kinds (x y z : Nat) (ev : Int) : List (List UInt8) := List.replicate x [101, 114, 114, 111, 114] ++ (List.replicate y [102, 108, 97, 119, 32] ++ (List.replicate z [115, 101, 101, 110, 32] ++ if ev = 0 then [] else [[115, 116, 111, 112, 112]]))
theorem up_map {α : Type} {β : Type} (f : Nat -> α) (g : α -> β) (k : Nat) (c : β) (h : ∀ i, g (f i) = c) : (up f k).map g = List.replicate k c := by
 rw [List.eq_replicate_iff]
 refine ⟨by rw [List.length_map, up_len], fun b hb => ?_⟩
 obtain ⟨a, ha, rfl⟩ := List.mem_map.1 hb
 obtain ⟨i, _, rfl⟩ := List.mem_map.1 ha
 exact h i
theorem lines_kinds (x y z : Nat) (ev : Int) : (lines (mine x y z ev)).map (·.take 5) = kinds x y z ev := by
 unfold lines rows kinds mine
 simp only [List.map_append, List.map_map, List.map_nil, List.nil_append]
 congr 1
 ·exact up_map _ _ _ _ fun i => rfl
 ·congr 1
  ·exact up_map _ _ _ _ fun i => rfl
  ·congr 1
   ·exact up_map _ _ _ _ fun i => rfl
   ·unfold endRow
    split <;> rfl
theorem kinds_len5 {x y z : Nat} {ev : Int} : ∀ s ∈ kinds x y z ev, s.length = 5 := by
 intro s hs
 unfold kinds at hs
 rcases List.mem_append.1 hs with h | h
 ·rw [(List.mem_replicate.1 h).2]; rfl
 rcases List.mem_append.1 h with h | h
 ·rw [(List.mem_replicate.1 h).2]; rfl
 rcases List.mem_append.1 h with h | h
 ·rw [(List.mem_replicate.1 h).2]; rfl
 split at h
 ·cases h
 ·rw [List.mem_singleton] at h; rw [h]; rfl
theorem kinds_len (x y z : Nat) (ev : Int) : (kinds x y z ev).length = x + y + z + if ev = 0 then 0 else 1 := by
 unfold kinds
 simp only [List.length_append, List.length_replicate]
 split <;> simp <;> omega
theorem mine_len (x y z : Nat) (ev : Int) : (lines (mine x y z ev)).length = x + y + z + if ev = 0 then 0 else 1 := by
 rw [<- kinds_len, <- lines_kinds, List.length_map]
theorem mine_at {x y z : Nat} {ev : Int} {i : Nat} (h : i < (lines (mine x y z ev)).length) (h' : i < (kinds x y z ev).length) : ((lines (mine x y z ev))[i]).take 5 = (kinds x y z ev)[i] /\ 5 <= ((lines (mine x y z ev))[i]).length := by
 have e : ((lines (mine x y z ev)).map (·.take 5))[i]'(by rw [List.length_map]; exact h) = (kinds x y z ev)[i] := by
  simp only [lines_kinds]
 rw [List.getElem_map] at e
 refine ⟨e, ?_⟩
 have h5 := kinds_len5 _ (List.getElem_mem h')
 rw [<- e, List.length_take] at h5
 omega
theorem kinds_at {x y z : Nat} {ev : Int} {i : Nat} (h : i < (kinds x y z ev).length) : (kinds x y z ev)[i] = if i < x then [101, 114, 114, 111, 114] else if i < x + y then [102, 108, 97, 119, 32] else if i < x + y + z then [115, 101, 101, 110, 32] else [115, 116, 111, 112, 112] := by
 have hl := h
 rw [kinds_len] at hl
 simp only [kinds]
 by_cases h1 : i < x
 ·rw [if_pos h1, List.getElem_append_left (by simpa using h1), List.getElem_replicate]
 rw [if_neg h1, List.getElem_append_right (by simpa using Nat.le_of_not_lt h1)]
 by_cases h2 : i < x + y
 ·rw [if_pos h2, List.getElem_append_left (by simp; omega), List.getElem_replicate]
 rw [if_neg h2, List.getElem_append_right (by simp; omega)]
 by_cases h3 : i < x + y + z
 ·rw [if_pos h3, List.getElem_append_left (by simp; omega), List.getElem_replicate]
 rw [if_neg h3, List.getElem_append_right (by simp; omega)]
 split at hl
 ·omega
 ·rename_i h4
  have : i = x + y + z := by omega
  subst this
  simp [h4]
theorem mine_ok {x y z : Nat} {ev : Int} (hx : x <= 9) (hy : y <= 9) (hz : z <= 9) (h0 : 0 <= ev) (h1 : ev <= 12) : (mine x y z ev).Ok := by
 have ha : NB [[97]] := NB.few (by decide)
 have hb : NB [[98]] := NB.few (by decide)
 refine ⟨?_, ?_, by simp [mine], ?_, ?_, ?_, by simp [mine], ?_, h0, h1⟩
 ·show (up oneE x).length <= 10; rw [up_len]; omega
 ·show (up oneF y).length <= 10; rw [up_len]; omega
 ·show (up oneS z).length <= 10; rw [up_len]; omega
 ·intro e he
  obtain ⟨i, hi, rfl⟩ := List.mem_map.1 he
  rw [List.mem_range] at hi
  exact ⟨by simp [oneE], by simp [oneE], by simp only [oneE]; omega, by simp [oneE], by simp [oneE]⟩
 ·intro e he
  obtain ⟨i, hi, rfl⟩ := List.mem_map.1 he
  rw [List.mem_range] at hi
  exact ⟨ha, by simp only [oneF]; omega, by simp only [oneF]; omega, by simp only [oneF]; omega, by simp only [oneF]; omega⟩
 ·intro e he
  obtain ⟨i, hi, rfl⟩ := List.mem_map.1 he
  rw [List.mem_range] at hi
  refine ⟨hb, by simp [oneS], by simp only [oneS]; omega, by simp only [oneS]; omega, by simp [oneS], by simp [oneS], fun p hp => ?_⟩
  simp only [oneS, List.mem_singleton] at hp
  subst hp; omega
end Tt
theorem OneM.rep {w : World} {RB x y z : Nat} {v0 v1 v3 : Value} {ev : Int} {A : World} (h : OneM w RB x y z v0 v1 v3 ev A) : RepRd v0 v1 (.slice none 0 0) v3 (Tt.mine x y z ev) A :=
 ⟨h.e.read, h.f.read.imp fun _ _ h => h.fl, lrd_nil _ _ _, h.s.read.imp fun _ _ h => h.se⟩
end Go.Proofs.YtjhibbjafjhhjaaDoor
end
