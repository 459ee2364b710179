/- Laws for a range over a function, over any program: the iterator's contract speaks of positions; the loop's invariant is any predicate on positions and worlds that bears the loop's own record. -/
import Derived.RangeFuncNested
import Derived.RangeFuncBound
import Derived.RangeFuncCalls
import Derived.RangeFuncLeaves
import Derived.WalkKit
import Derived.Test.YtgmbefolgppmdaaGreatDoorKShelf
import Derived.WalkSpells
import Derived.WalkLawsBesides
import Derived.OwnWalkIn
import Derived.TacticsInMore
import Derived.LoopNIn
import Derived.LoopIn
import Derived.Lib.Hide
import Derived.Lib.FrozenHead2
import Derived.Lib.OthersKept
import Derived.Maps.AppendAt
section
namespace Go.Proofs.YtgmbefolgppmdaaGreatDoor
open Go.RowKit
set_option maxRecDepth 100000
def Iter {σ : Type} (P : Program) (gf : Nat) (lb : Array Value) (Pre : World -> Prop) (St Kp : World -> World -> Prop) (Y : σ -> World -> Array Value -> σ -> Prop) (k0 : σ) (E : σ -> Prop) : Prop :=
 ∀ (l : Nat) (J : σ -> World -> Prop) (Jx : World -> Prop) (W : World), Pre W ->
  (∀ k A B, J k A -> St A B -> J k B) -> (∀ A B, Jx A -> St A B -> Jx B) ->
  (∀ k k' v A, J k A -> Y k A v k' -> YieldAt Fence.wide 0 P l v A fun e B => (e = .returned (.bool true) /\ J k' B /\ Kp A B) \/ (e = .returned (.bool false) /\ Jx B)) ->
  J k0 W ->
  CallsIn Fence.wide 0 P gf (#[.func (.yield l) #[] #[]] ++ lb) W fun e B => (∃ v, e = .returned v) /\ ((∃ k, E k /\ J k B) \/ Jx B)
def rfPost {σ : Type} (Kp : World -> World -> Prop) (I : σ -> World -> Prop) (Ix : Code -> World -> Prop) (k' : σ) (W : World) : Exit -> Act -> World -> Prop
 | .normal, _, W' => KeepsOthers W W' /\ Kp W W' /\ I k' W'
 | .ret, _, W' => KeepsOthers W W' /\ Ix .ret W'
 | .exit id, _, W' => KeepsOthers W W' /\ Ix (.exit id) W'
 | .goto t, _, W' => KeepsOthers W W' /\ Ix (.goto t) W'
 | .panic _, _, _ => False
 | .outgrown, _, _ => False
def rfNext {σ : Type} (P : Program) (l L : Nat) (Kp : World -> World -> Prop) (I : σ -> World -> Prop) (Ix : Code -> World -> Prop) (body : Code) (k' : σ) (W : World) (a₁ : Act) (W₁ : World) : Prop :=
 KeepsOthers W W₁ /\ Kp W W₁ /\ ∀ r o, l = L -> W₁.heap[L]? = some (.loop r) -> body.wpIn (Fence.wide.inRound l) 0 P (rfPost Kp I Ix k' (W₁.putObj L (.loop o))) a₁ (W₁.putObj L (.loop o))
theorem rfNext_same {σ : Type} {P : Program} {l L : Nat} {Kp : World -> World -> Prop} {I : σ -> World -> Prop} {Ix : Code -> World -> Prop} {body : Code} {k k' : σ} {W : World} {a₁ : Act}
  (hk : Kp W W) (hi : I k W) (hp : ∀ k A r o, I k A -> A.heap[L]? = some (.loop r) -> I k (A.putObj L o))
  (h : ∀ W₂ r, l = L -> W₂.heap[L]? = some (.loop r) -> I k W₂ -> body.wpIn (Fence.wide.inRound l) 0 P (rfPost Kp I Ix k' W₂) a₁ W₂) : rfNext P l L Kp I Ix body k' W a₁ W :=
 ⟨KeepsOthers.refl W, hk, fun r o hl hr => h _ o hl (World.putObj_heap_same (Array.getElem?_eq_some_iff.1 hr).1) (hp k W r (.loop o) hi hr)⟩
theorem wide_le {n : Nat} : Fence.wide.depth.isSome = true -> 1 <= n := fun h => by cases h
variable {P : Program}
theorem rf_outer {σ : Type} {g : Operand} {ps : Array Tmp} {assign body : Code} {Q : Exit -> Act -> World -> Prop} {a : Act} {w : World}
  {gf : Nat} {lb : Array Value} (hg : a.eval g = .func (.func gf) #[] lb) (eg : ∀ args w, (callFunc gf args).run P w = .ok (.enter gf args) w)
  {Pre : World -> Prop} {St Kp : World -> World -> Prop} {Y : σ -> World -> Array Value -> σ -> Prop} {k0 : σ} {E : σ -> Prop} (hit : Iter P gf lb Pre St Kp Y k0 E)
  (hSt : ∀ A B, St A B -> KeepsOthers A B) (hKt : ∀ A B C, Kp A B -> Kp B C -> Kp A C) (hKb : ∀ A o, Kp A (A.putObj (w.heap.size + 1) o))
  (hps : ∀ k A v k', Y k A v k' -> v.size = ps.size)
  (I : σ -> World -> Prop) (Ix : Code -> World -> Prop)
  (hIs : ∀ k A B, I k A -> St A B -> I k B) (hIxs : ∀ c A B, Ix c A -> St A B -> Ix c B)
  (hIp : ∀ k A r o, I k A -> A.heap[w.heap.size + 1]? = some (.loop r) -> I k (A.putObj (w.heap.size + 1) o)) (hIxp : ∀ c A r o, Ix c A -> A.heap[w.heap.size + 1]? = some (.loop r) -> Ix c (A.putObj (w.heap.size + 1) o))
  (h0 : ∀ r, I k0 ((w.alloc (.deferred (some []))).alloc (.loop r))) (hpre : ∀ r, Pre ((w.alloc (.deferred (some []))).alloc (.loop r)))
  (hround : ∀ l k k' v W, I k W -> Y k W v k' ->
   assign.wpIn (Fence.wide.inRound l) 0 P (Exit.then (rfNext P l (w.heap.size + 1) Kp I Ix body k' W) (fun _ _ _ => False)) { tmps := (ps.zip v).foldl (fun t (p, v) => t.setIfInBounds p v) a.tmps, defers := [] } W)
  (hdone : ∀ k W, E k -> I k W -> W.heap[w.heap.size]? = some (.deferred (some [])) -> Q .normal { a with defers := { target := .collected w.heap.size, args := #[] } :: a.defers } W)
  (hstop : ∀ c W, Ix c W -> W.heap[w.heap.size]? = some (.deferred (some [])) -> c.wpIn Fence.wide 0 P Q { a with defers := { target := .collected w.heap.size, args := #[] } :: a.defers } W) :
  (Code.rangeFunc g ps assign body).wpIn Fence.wide 0 P Q a w := by
 refine wpIn_rangeFunc ?_
 intro fn hfn
 obtain ⟨rec, hrec⟩ : ∃ rec : LoopState -> Option Code -> Loop, rec = fun st pe => { state := st, pending := pe, fn, tmps := a.tmps, params := ps, assign, body, defers := w.heap.size } := ⟨_, rfl⟩
 obtain ⟨W1, hW1⟩ : ∃ W1, (w.alloc (.deferred (some []))).alloc (.loop (rec .ready none)) = W1 := ⟨_, rfl⟩
 have hL1 : W1.heap[w.heap.size + 1]? = some (.loop (rec .ready none)) := by
  rw [<- hW1]; have := World.alloc_heap_new (w.alloc (.deferred (some []))) (.loop (rec .ready none)); rwa [World.size_alloc] at this
 have hK1 : W1.heap[w.heap.size]? = some (.deferred (some [])) := by
  rw [<- hW1]; exact (Below.heap_alloc _ _ _ (by simp)).trans (World.alloc_heap_new w _)
 have hI1 : I k0 W1 := by rw [<- hW1]; exact h0 _
 have hP1 : Pre W1 := by rw [<- hW1]; exact hpre _
 refine ⟨w.heap.size + 1, [{ target := .collected w.heap.size, args := #[] }], W1, { target := .fn (.func gf) lb, args := #[.func (.yield (w.heap.size + 1)) #[] #[]] }, W1, gf,
  #[.func (.yield (w.heap.size + 1)) #[] #[]] ++ lb, W1, ?_, ?_, ?_, ?_, wide_le, ?_⟩
 ·rw [<- hW1, hrec]; exact run_enterLoop_outer _ _ _ _ _
 ·simp only [resolve, hg]
  simp [go_sem]
 ·intro f' _; trivial
 ·simp [invoke, go_sem, eg]
 ·refine (hit (w.heap.size + 1)
   (fun k W => I k W /\ W.heap[w.heap.size + 1]? = some (.loop (rec .ready none)) /\ W.heap[w.heap.size]? = some (.deferred (some [])))
   (fun W => ∃ c, Ix c W /\ W.heap[w.heap.size + 1]? = some (.loop (rec .done (some c))) /\ W.heap[w.heap.size]? = some (.deferred (some [])))
   W1 hP1
   (fun k A B hs hst => ⟨hIs k A B hs.1 hst, (hSt A B hst).same _ _ hs.2.1 rfl, (hSt A B hst).same _ _ hs.2.2 rfl⟩)
   (fun A B ⟨c, hc, hl, hk⟩ hst => ⟨c, hIxs c A B hc hst, (hSt A B hst).same _ _ hl rfl, (hSt A B hst).same _ _ hk rfl⟩)
   ?_ ⟨hI1, hL1, hK1⟩).mono ?_
  ·rintro k k' v W ⟨hi, hl, hk⟩ hyv
   have hlt : w.heap.size + 1 < W.heap.size := (Array.getElem?_eq_some_iff.1 hl).1
   have hy := run_yield (P := P) (args := v) hl (by rw [hrec]; exact hps k W v k' hyv)
   rw [hrec] at hy
   refine ⟨fn, _, assign, body, hy, roundIn_of_wpIn hfn (wpIn_mono (hround _ k k' v W hi hyv) ?_)⟩
   clear hy
   intro e a₁ Wa hx
   cases e with
   | exit id => exact hx.elim
   | goto t => exact hx.elim
   | ret => exact hx.elim
   | panic ch => exact hx.elim
   | outgrown => exact hx.elim
   | normal =>
   obtain ⟨hkfa, hkpa, hbody⟩ := hx
   replace hl := hkfa.same _ _ hl rfl
   replace hk := hkfa.same _ _ hk rfl
   replace hlt : w.heap.size + 1 < Wa.heap.size := (Array.getElem?_eq_some_iff.1 hl).1
   refine ⟨_, run_beginRound hl (by rw [hrec]), ?_⟩
   revert hkpa hkfa
   generalize W = Wb
   intro hkfa hkpa
   obtain ⟨W, rfl⟩ : ∃ W, W = Wa := ⟨_, rfl⟩
   have hl2 : (W.putObj (w.heap.size + 1) (.loop { rec .ready none with state := .busy })).heap[w.heap.size + 1]? = some (.loop { rec .ready none with state := .busy }) := World.putObj_heap_same hlt
   have hk2 : (W.putObj (w.heap.size + 1) (.loop { rec .ready none with state := .busy })).heap[w.heap.size]? = some (.deferred (some [])) := (World.putObj_heap_other (by omega)).trans hk
   have hw2 : Kp W (W.putObj (w.heap.size + 1) (.loop { rec .ready none with state := .busy })) := hKb _ _
   refine wpIn_mono (hbody _ _ rfl hl) ?_
   have fin : ∀ (jump : Option Code) (W3 : World), KeepsOthers (W.putObj (w.heap.size + 1) (.loop { rec .ready none with state := .busy })) W3 ->
     (Instr.endRound (w.heap.size + 1) jump).run P W3 = .ok (.bool jump.isNone) (W3.putObj (w.heap.size + 1) (.loop (rec (if jump.isNone then .ready else .done) jump))) /\
     (∃ r, W3.heap[w.heap.size + 1]? = some (.loop r)) /\
     (W3.putObj (w.heap.size + 1) (.loop (rec (if jump.isNone then .ready else .done) jump))).heap[w.heap.size + 1]? = some (.loop (rec (if jump.isNone then .ready else .done) jump)) /\
     (W3.putObj (w.heap.size + 1) (.loop (rec (if jump.isNone then .ready else .done) jump))).heap[w.heap.size]? = some (.deferred (some [])) := fun jump W3 hk3 => by
    have hl3 := hk3.same _ _ hl2 rfl
    have hl3' : ∃ r, W3.heap[w.heap.size + 1]? = some (.loop r) := ⟨_, hl3⟩
    have := run_endRound (P := P) jump hl3
    rw [hrec] at this ⊢
    exact ⟨this, hl3', World.putObj_heap_same (Array.getElem?_eq_some_iff.1 hl3).1, (World.putObj_heap_other (by omega)).trans (hk3.same _ _ hk2 rfl)⟩
   rintro e a3 W3 hp
   cases e with
   | normal =>
    obtain ⟨hk3, hkp3, hi3⟩ := hp
    obtain ⟨hr, ⟨_, hl3⟩, hl4, hk4⟩ := fin none W3 hk3
    exact ⟨_, _, hr, .inl ⟨rfl, ⟨hIp _ _ _ _ hi3 hl3, hl4, hk4⟩, hKt _ _ _ hkpa (hKt _ _ _ (hKt _ _ _ hw2 hkp3) (hKb _ _))⟩⟩
   | ret =>
    obtain ⟨hk3, hi3⟩ := hp
    obtain ⟨hr, ⟨_, hl3⟩, hl4, hk4⟩ := fin (some .ret) W3 hk3
    exact ⟨_, _, hr, .inr ⟨rfl, .ret, hIxp _ _ _ _ hi3 hl3, hl4, hk4⟩⟩
   | exit id =>
    obtain ⟨hk3, hi3⟩ := hp
    obtain ⟨hr, ⟨_, hl3⟩, hl4, hk4⟩ := fin (some (.exit id)) W3 hk3
    exact ⟨_, _, hr, .inr ⟨rfl, .exit id, hIxp _ _ _ _ hi3 hl3, hl4, hk4⟩⟩
   | goto t =>
    obtain ⟨hk3, hi3⟩ := hp
    obtain ⟨hr, ⟨_, hl3⟩, hl4, hk4⟩ := fin (some (.goto t)) W3 hk3
    exact ⟨_, _, hr, .inr ⟨rfl, .goto t, hIxp _ _ _ _ hi3 hl3, hl4, hk4⟩⟩
   | panic ch => exact hp.elim
   | outgrown => exact hp.elim
  ·rintro e W2 ⟨⟨v, rfl⟩, (⟨k, hS, hi, hl, hk⟩ | ⟨c, hi, hl, hk⟩)⟩
   ·exact ⟨none, _, by have := run_endLoop (P := P) hl (by rw [hrec]; simp); rw [hrec] at this; exact this, hdone k _ hS (hIp _ _ _ _ hi hl) ((World.putObj_heap_other (by omega)).trans hk)⟩
   ·exact ⟨some c, _, by have := run_endLoop (P := P) hl (by rw [hrec]; simp); rw [hrec] at this; exact this, hstop c _ (hIxp _ _ _ _ hi hl) ((World.putObj_heap_other (by omega)).trans hk)⟩
end Go.Proofs.YtgmbefolgppmdaaGreatDoor
end
section
namespace Go.Proofs.YtgmbefolgppmdaaGreatDoor
open Go.RowKit Go.Shelf
set_option maxRecDepth 100000
abbrev S (l : List UInt8) : Value := .string ⟨l.toArray⟩
abbrev I64 (n : Int) : Value := .int .i64 n
theorem ret_int {k : IntKind} {a b : Int} (h : a = b) : Ending.returned (.int k a) = .returned (.int k b) := by rw [h]
theorem ret_bool {a b : Bool} (h : a = b) : Ending.returned (.bool a) = .returned (.bool b) := by rw [h]
theorem ret_S {a b : List UInt8} (h : a = b) : Ending.returned (S a) = .returned (S b) := by rw [h]
@[go_sem] theorem getElem_S (l : List UInt8) (k : Nat) (h : k < (ByteArray.mk l.toArray).size) : (ByteArray.mk l.toArray)[k] = l[k]'h := rfl
theorem append_S (a b : List UInt8) : (ByteArray.mk a.toArray) ++ (ByteArray.mk b.toArray) = ⟨(a ++ b).toArray⟩ := by
 apply ByteArray.ext; simp [ByteArray.data_append]
theorem take_one (l : List UInt8) (k : Nat) (h : k < l.length) : (l.drop k).take 1 = [l[k]] := by
 rw [List.drop_eq_getElem_cons h]; rfl
@[go_sem] theorem take_sub_drop (l : List UInt8) (a : Nat) : (l.drop a).take (l.length - a) = l.drop a := List.take_of_length_le (by simp)
@[go_sem] theorem extract_S (l : List UInt8) (a b : Nat) : (ByteArray.mk l.toArray).extract a b = ⟨((l.drop a).take (b - a)).toArray⟩ := by
 rw [ByteArray.extract_mk]
theorem below_keepsOthers {W W' : World} (h : Below W.heap.size W W') : KeepsOthers W W' :=
 ⟨h.size, fun k _o hk _ => (h.block k (Array.getElem?_eq_some_iff.1 hk).1).trans hk⟩
@[go_sem, simp] theorem wide_depth : Fence.wide.depth = none := rfl
@[go_sem, simp] theorem wide_fn (f : FuncId) : Fence.wide.fn f := trivial
@[go_sem, simp] theorem wide_fn' (f : FuncId) : Fence.wide.fn f = True := rfl
def Box (b : Nat) (t : TypeId) (v : Value) (W : World) : Prop := W.heap[b]? = some (.cells #[v] t (0, 0))
theorem Box.lt {b t v W} (h : Box b t v W) : b < W.heap.size := (Array.getElem?_eq_some_iff.1 h).1
theorem Box.cell {b t v W} (h : Box b t v W) : W.cell? ⟨b, 0, none⟩ = some v := by unfold Box at h; simp [World.cell?, h]
theorem Box.frozen {b t v W} (h : Box b t v W) : W.frozen? ⟨b, 0, none⟩ = false := by unfold Box at h; simp [World.frozen?, h]
theorem Box.below {b t v} {W W' : World} (h : Box b t v W) (hb : Below W.heap.size W W') : Box b t v W' := (hb.block b h.lt).trans h
theorem Box.new (W : World) (t : TypeId) (v : Value) : Box W.heap.size t v (W.alloc (.cells #[v] t)) := World.alloc_heap_new W _
theorem Box.alloc {b t v W} (h : Box b t v W) (o : Obj) : Box b t v (W.alloc o) := (Below.heap_alloc W o b h.lt).trans h
theorem Box.put {b t v W l r} (h : Box b t v W) (hr : W.heap[l]? = some (.loop r)) (o : Obj) : Box b t v (W.putObj l o) := by
 have hne : b ≠ l := fun e => by unfold Box at h; rw [e, hr] at h; cases h
 exact (World.putObj_heap_other (by omega)).trans h
theorem below_putD {n : Nat} {w W : World} (h : Below n w W) {l : Nat} (hl : n <= l) (hn : n <= W.heap.size) (o : Obj) : Below n w (W.putObj l o) :=
 h.grown (grownBy_putObj' W l o) hn (fun k e => by have := Option.some.inj e; omega)
theorem Box.others {b t v W W' e c} (h : Box b t v W) (ho : Lib.OthersKept e (some c) W W') (hb : b ≠ c) (ht : t ≠ e) : Box b t v W' :=
 ho b _ h (fun x => hb (by cases x; rfl)) (fun _ _ x => ht (by cases x; rfl))
theorem Box.set {b t v W} (h : Box b t v W) (u : Value) : Box b t u (W.setCell ⟨b, 0, none⟩ u) := by
 unfold Box at h ⊢; simp [World.setCell, Array.getElem?_modify, h]
theorem Box.setOther {b t v W} (h : Box b t v W) {c o : Nat} (hne : b ≠ c) (u : Value) : Box b t v (W.setCell ⟨c, o, none⟩ u) := (Below.heap_setCell _ _ _ _ hne).trans h
theorem below_put {n : Nat} {w W : World} (h : Below n w W) {l : Nat} (hl : n <= l) {r} (_hr : W.heap[l]? = some (.loop r)) (hn : n <= W.heap.size) (o : Obj) : Below n w (W.putObj l o) :=
 h.grown (grownBy_putObj' W l o) hn (fun k e => by cases e; exact hl)
theorem keepsOthers_others {e c} {W W' : World} (hs : W.heap.size <= W'.heap.size) (ho : Lib.OthersKept e (some c) W W') (hc : ∃ x t f, W.heap[c]? = some (.cells x t f)) : KeepsOthers W W' := by
 obtain ⟨x, t, f, hc⟩ := hc
 refine ⟨hs, fun k o hk hn => ho k o hk (fun e => ?_) (fun _ _ e => ?_)⟩
 ·cases e; rw [hc] at hk; cases hk; simp [Obj.isCells] at hn
 ·subst e; simp [Obj.isCells] at hn
theorem others_below {e c} {W W' : World} (hb : Below W.heap.size W W') : Lib.OthersKept e c W W' := fun k _ hk _ _ => (hb.block k (Array.getElem?_eq_some_iff.1 hk).1).trans hk
def sameCell (b : Nat) (A B : World) : Prop := B.cell? ⟨b, 0, none⟩ = A.cell? ⟨b, 0, none⟩
theorem sameCell.trans {b : Nat} (A B C : World) (h : sameCell b A B) (k : sameCell b B C) : sameCell b A C := Eq.trans k h
theorem sameCell.put {b l : Nat} (h : b ≠ l) (A : World) (o : Obj) : sameCell b A (A.putObj l o) := by
 unfold sameCell World.cell?; rw [World.putObj_heap_other (by simpa using h)]
theorem Box.same {b t v W W'} (h : Box b t v W) (h' : Box b t v W') : sameCell b W W' := h'.cell.trans h.cell.symm
def CellsKept (W W' : World) : Prop := ∀ (k : Nat) (c : Array Value) (t : TypeId) (f : Nat × Nat), W.heap[k]? = some (Obj.cells c t f) -> W'.heap[k]? = some (Obj.cells c t f)
theorem CellsKept.put {W : World} {l r} (hr : W.heap[l]? = some (.loop r)) (o : Obj) : CellsKept W (W.putObj l o) :=
 fun k c t f hk => (World.putObj_heap_other (fun e => by rw [e, hr] at hk; cases hk)).trans hk
theorem CellsKept.below {W W' : World} (hb : Below W.heap.size W W') : CellsKept W W' := fun k _c _t _f hk => (hb.block k (Array.getElem?_eq_some_iff.1 hk).1).trans hk
theorem CellsKept.alloc (W : World) (o : Obj) : CellsKept W (W.alloc o) := fun k _c _t _f hk => (Below.heap_alloc W o k (Array.getElem?_eq_some_iff.1 hk).1).trans hk
end Go.Proofs.YtgmbefolgppmdaaGreatDoor
end
section
namespace Go.Proofs.YtgmbefolgppmdaaGreatDoor
open Go.RowKit Go.Shelf
set_option maxRecDepth 100000
theorem conv_lit (w : World) (l : List UInt8) (cap : Nat) :
  (convert 27 9 (.slice (some ⟨w.heap.size, 0, none⟩) l.length cap)).run Tryz.prog (w.alloc (.cells ((l.map fun b => Value.int .u8 b.toNat).toArray) 5)) = .ok (S l) (w.alloc (.cells ((l.map fun b => Value.int .u8 b.toNat).toArray) 5)) := by
 refine run_convert_bytes_back _ _ _ 5 _ _ l Tryz.underlying27 Tryz.underlying5 Tryz.underlying9 (fun j hj => ?_)
 have := cell_of_row (w.alloc (.cells ((l.map fun b => Value.int .u8 b.toNat).toArray) 5)) w.heap.size j _ 5 (0, 0) (World.alloc_heap_new w _)
 have hadd : (⟨w.heap.size, 0, none⟩ : Addr).add j = ⟨w.heap.size, j, none⟩ := by unfold Addr.add; split <;> simp_all
 rw [hadd, this]; simp [hj]
def ByteRow (g : Nat) (l : List UInt8) (W : World) : Prop := ∃ cur lo hi, W.heap[g]? = some (.cells cur 5 (lo, hi)) /\ l.length <= lo /\ ∀ j (h : j < l.length), cur[j]? = some (.int .u8 (l[j].toNat : Int))
theorem ByteRow.lt {g l W} (h : ByteRow g l W) : g < W.heap.size := by obtain ⟨_, _, _, h, _⟩ := h; exact (Array.getElem?_eq_some_iff.1 h).1
theorem ByteRow.cell {g l W} (h : ByteRow g l W) (j : Nat) (hj : j < l.length) : W.cell? ⟨g, j, none⟩ = some (.int .u8 (l[j].toNat : Int)) := by
 obtain ⟨cur, lo, hi, hg, _, hc⟩ := h; rw [cell_of_row W g j _ _ _ hg]; exact hc j hj
theorem ByteRow.frozen {g l W} (h : ByteRow g l W) (j : Nat) (hj : j < l.length) : W.frozen? ⟨g, j, none⟩ = false := by
 obtain ⟨cur, lo, hi, hg, hl, _⟩ := h
 simp [World.frozen?, hg]; omega
theorem ByteRow.set {g l W} (h : ByteRow g l W) (j : Nat) (c : UInt8) : ByteRow g (l.set j c) (W.setCell ⟨g, j, none⟩ (.int .u8 (c.toNat : Int))) := by
 obtain ⟨cur, lo, hi, hg, hl, hc⟩ := h
 refine ⟨cur.setIfInBounds j (.int .u8 (c.toNat : Int)), lo, hi, ?_, by simpa using hl, fun i hi' => ?_⟩
 ·simp [World.setCell, Array.getElem?_modify, hg]
 ·simp only [List.length_set] at hi'
  have := hc i hi'
  have hs := (Array.getElem?_eq_some_iff.1 this).1
  rw [Array.getElem?_setIfInBounds, List.getElem_set]
  by_cases e : j = i
  ·subst e; simp [hs]
  ·simp [e, this]
theorem ByteRow.kept {g l} {W W' : World} (h : ByteRow g l W) (hg : W'.heap[g]? = W.heap[g]?) : ByteRow g l W' := by
 obtain ⟨cur, lo, hi, h1, r⟩ := h; exact ⟨cur, lo, hi, hg.trans h1, r⟩
theorem ByteRow.put {g l W n r} (h : ByteRow g l W) (hr : W.heap[n]? = some (.loop r)) (o : Obj) : ByteRow g l (W.putObj n o) := by
 refine h.kept (World.putObj_heap_other (fun e => ?_))
 obtain ⟨_, _, _, h1, _⟩ := h
 rw [e, hr] at h1; cases h1
theorem ByteRow.alloc {g l W} (h : ByteRow g l W) (o : Obj) : ByteRow g l (W.alloc o) := h.kept (Below.heap_alloc W o g h.lt)
theorem ByteRow.setOther {g l W} (h : ByteRow g l W) {c o : Nat} (hne : g ≠ c) (u : Value) : ByteRow g l (W.setCell ⟨c, o, none⟩ u) := h.kept (Below.heap_setCell _ _ _ _ hne)
theorem bytes_of (l : List UInt8) (w : World) : ∃ (cap : Nat) (W1 : World), (convert 9 27 (S l)).run Tryz.prog w = .ok (.slice (some ⟨w.heap.size, 0, none⟩) l.length cap) W1 /\
  ByteRow w.heap.size l W1 /\ Below w.heap.size w W1 /\ W1.heap.size = w.heap.size + 1 := by
 refine ⟨_, _, run_bytes_of_string w _ _ 5 ⟨l.toArray⟩ Tryz.underlying9 Tryz.underlying27 Tryz.underlying5, ⟨_, _, _, World.alloc_heap_new w.drew _, ?_, fun j hj => ?_⟩, ((Below.refl _ w).drew.alloc (Nat.le_refl _) _), by simp⟩
 ·simp [bytesRow]
 ·simp only [bytesRow]; rw [Array.getElem?_append_left (by simpa using hj)]; simp [hj]
theorem conv_row (g : Nat) (l : List UInt8) (cap : Nat) (W : World) (h : ByteRow g l W) : (convert 27 9 (.slice (some ⟨g, 0, none⟩) l.length cap)).run Tryz.prog W = .ok (S l) W := by
 refine run_convert_bytes_back _ _ _ 5 _ _ l Tryz.underlying27 Tryz.underlying5 Tryz.underlying9 (fun j hj => ?_)
 have hadd : (⟨g, 0, none⟩ : Addr).add j = ⟨g, j, none⟩ := by unfold Addr.add; split <;> simp_all
 rw [hadd, h.cell j hj]
abbrev Bld (B b : Nat) (l : List UInt8) (w : World) : Prop := Lib.IsBuilderF 94 5 B b (Lib.byteCells l) w
theorem Tryz.info_u8 : (Tryz.prog.info? 5).map (fun i => (i.zero, i.size, i.bytes)) = some (some (.int .u8 0), 1, 1) := by kernel_rfl
theorem Tryz.info_Bld : (Tryz.prog.info? 94).map (·.size) = some 2 := by kernel_rfl
theorem Tryz.lies_Bld : liesAt Tryz.prog Tryz.prog.depth 94 (2 / Tryz.prog.cellsOf 94) 0 94 1 = true := by kernel_rfl
set_option maxHeartbeats 400000 in
theorem copyCheck_fresh (b : Nat) (w : World) (h0 : w.cell? ⟨b, 0, none⟩ = some (.pointer none)) (hs : w.shape? b = some (94, 2)) (hf : w.frozen? ⟨b, 0, none⟩ = false) :
  Calls Tryz.prog 91 #[.pointer (some ⟨b, 0, none⟩)] w fun e w' => e = .returned (.tuple #[]) /\ w.setCell ⟨b, 0, none⟩ (.pointer (some ⟨b, 0, none⟩)) = w' := by
 obtain ⟨j, hj, hjs⟩ := Option.map_eq_some_iff.1 Tryz.info_Bld
 go_enter Tryz.func91, Tryz.ntmps91
 go_wp2
 rw [Lib.run_to_unsafe w ⟨b, 0, none⟩ Tryz.underlying92 Tryz.underlying136 hj (by rw [hjs]; decide) hs (Nat.zero_lt_succ 1)]
 simp only [Result.andThen]
 rw [Oper.upon_value]
 go_wp2
 rw [run_callFunc_extern Tryz.func113 (by kernel_rfl) (by kernel_rfl) (by kernel_rfl) (e := Extern.AbiNoEscape.same) (by kernel_rfl)]
 rw [Lib.run_noEscape]
 simp only [Result.andThen]
 rw [Oper.upon_value]
 go_wp2
 rw [Lib.run_from_unsafe w ⟨b, 0, none⟩ Tryz.underlying136 Tryz.underlying92 hj hs Tryz.lies_Bld]
 simp only [Result.andThen]
 rw [Oper.upon_value]
 go_wp2
 go_end0
 exact ⟨rfl, rfl⟩
set_option maxHeartbeats 400000 in
theorem copyCheck_used (b : Nat) (w : World) (h0 : w.cell? ⟨b, 0, none⟩ = some (.pointer (some ⟨b, 0, none⟩))) :
  Calls Tryz.prog 91 #[.pointer (some ⟨b, 0, none⟩)] w fun e w' => e = .returned (.tuple #[]) /\ w = w' := by
 obtain ⟨j, hj, hjs⟩ := Option.map_eq_some_iff.1 Tryz.info_Bld
 go_enter Tryz.func91, Tryz.ntmps91
 go_wp2
 rw [Lib.run_neq_ptr_same w _ Tryz.underlying92 hj]
 go_wp2
 go_end0
 exact ⟨rfl, rfl⟩
theorem copyCheck_any (B b : Nat) (bs : List Value) (w : World) (h : Lib.IsBuilderF 94 5 B b bs w) :
  Calls Tryz.prog 91 #[.pointer (some ⟨b, 0, none⟩)] w fun e w' => e = .returned (.tuple #[]) /\ (Lib.BuilderAtF 94 5 B b (.pointer (some ⟨b, 0, none⟩)) bs w' /\ Below B w w' /\ Lib.OthersKept 5 (some b) w w') := by
 rcases h with h | h
 ·refine (copyCheck_fresh b w h.cell0 h.shape h.frozen0).mono ?_
  rintro e w' ⟨rfl, rfl⟩
  exact ⟨rfl, h.used _, (Below.refl B w).setCell (p := ⟨b, 0, none⟩) h.1 _, (Lib.OthersKept.refl _ _ w).setCell ⟨b, 0, none⟩ rfl _⟩
 ·refine (copyCheck_used b w h.cell0).mono ?_
  rintro e w' ⟨rfl, rfl⟩
  exact ⟨rfl, h, Below.refl B _, Lib.OthersKept.refl _ _ _⟩
set_option maxHeartbeats 1000000 in
set_option maxRecDepth 100000 in
theorem writeByte_any (B b : Nat) (bs : List Value) (c : Int) (w : World) (h : Lib.IsBuilderF 94 5 B b bs w) (hlen : bs.length + 1 <= 140737488355328) (hBw : B <= w.heap.size) :
  Calls Tryz.prog 96 #[.pointer (some ⟨b, 0, none⟩), .int .u8 c] w fun e w' => e = .returned .nilIface /\ (Lib.BuilderAtF 94 5 B b (.pointer (some ⟨b, 0, none⟩)) (bs ++ [.int .u8 c]) w' /\ Below B w w' /\ Lib.OthersKept 5 (some b) w w') := by
 obtain ⟨i0, hi, hz0, hz1, hz2⟩ := info_parts Tryz.info_u8
 go_enter Tryz.func96, Tryz.ntmps96
 go_wp2_with (go_at_call 91; refine (copyCheck_any B b bs _ h).mono ?_)
 rintro e w1 ⟨rfl, h1, hb1, hk1⟩
 obtain ⟨hB, v, hbk, hown, hne⟩ := h1
 have c0 : w1.cell? ⟨b, 0, none⟩ = some (.pointer (some ⟨b, 0, none⟩)) := by rw [Lib.cell_of_heap hbk]; rfl
 have c1 : w1.cell? ⟨b, 1, none⟩ = some v := by rw [Lib.cell_of_heap hbk]; rfl
 go_wp2_with (at_builtin; refine wpList_append_ownF _ rfl _ _ 27 rfl B 5 i0 (.int .u8 0) 1 1 Tryz.underlying27 hi hz0 hz1 hz2 rfl (by decide) _ _ _ rfl (hown.alloc _) ⟨w1.heap.size, 0, none⟩ 1 1 [.int .u8 c] rfl rfl ?c1 ?c2 ?c3 ?c4 ?c5 ?_)
 case c1 =>
  intro j u hj
  match j, hj with
  | 0, hj => simp at hj; subst hj; simp [Addr.add]
 case c2 => intro u hu; simp at hu; subst hu; rfl
 case c3 => unfold maxLen; omega
 case c4 => omega
 case c5 => have := hb1.size; simp; omega
 intro v' w2 hown' hgrow _
 have hlt : b < w1.heap.size := by
  rcases Nat.lt_or_ge b w1.heap.size with h' | h'
  ·exact h'
  ·simp [Array.getElem?_eq_none h'] at hbk
 have hb2 : w2.heap[b]? = some (.cells #[.pointer (some ⟨b, 0, none⟩), v] 94 (0, 0)) := by
  rw [hgrow.block b (by simp; omega) (fun e => hne e.symm), Lib.alloc_old w1 _ b hlt]
  exact hbk
 have d0 : w2.cell? ⟨b, 0, none⟩ = some (.pointer (some ⟨b, 0, none⟩)) := by rw [Lib.cell_of_heap hb2]; rfl
 have d1 : w2.cell? ⟨b, 1, none⟩ = some v := by rw [Lib.cell_of_heap hb2]; rfl
 have f1 : w2.frozen? ⟨b, 1, none⟩ = false := Lib.frozen_of_heap hb2 1
 obtain ⟨g, cap, rfl⟩ : ∃ g cap, v' = .slice (some ⟨g, 0, none⟩) (bs.length + 1) cap := by
  rcases hown'.2 with ⟨_, h0⟩ | ⟨g, cap, cur, fz, hv, _⟩
  ·omega
  ·exact ⟨g, cap, hv⟩
 go_wp2
 go_ret
 refine ⟨rfl, ?_, ?_, ((hk1.alloc _).grown hgrow (Lib.ownsRowF_kind (hown.alloc _))).setCell ⟨b, 1, none⟩ rfl _⟩
 ·exact Lib.BuilderAtF.put (T := 94) (e := 5) hB hb2 (bs' := bs ++ [.int .u8 c]) (by simpa using hown') (by decide)
 ·exact ((hb1.alloc (by have := hb1.size; omega) _).grown hgrow (by have := hb1.size; simp; omega) (fun k hk => (hown.lt k hk).1)).setCell (p := ⟨b, 1, none⟩) hB _
set_option maxHeartbeats 1000000 in
set_option maxRecDepth 100000 in
theorem writeString_any (B b : Nat) (bs : List Value) (s : ByteArray) (w : World) (h : Lib.IsBuilderF 94 5 B b bs w) (hlen : bs.length + s.size <= 140737488355328) (hBw : B <= w.heap.size) :
  Calls Tryz.prog 63 #[.pointer (some ⟨b, 0, none⟩), .string s] w fun e w' => e = .returned (.tuple #[.int .i64 s.size, .nilIface]) /\ (Lib.BuilderAtF 94 5 B b (.pointer (some ⟨b, 0, none⟩)) (bs ++ Lib.strCells s) w' /\ Below B w w' /\ Lib.OthersKept 5 (some b) w w') := by
 obtain ⟨i0, hi, hz0, hz1, hz2⟩ := info_parts Tryz.info_u8
 go_enter Tryz.func63, Tryz.ntmps63
 go_wp2_with (go_at_call 91; refine (copyCheck_any B b bs _ h).mono ?_)
 rintro e w1 ⟨rfl, h1, hb1, hk1⟩
 obtain ⟨hB, v, hbk, hown, hne⟩ := h1
 have c0 : w1.cell? ⟨b, 0, none⟩ = some (.pointer (some ⟨b, 0, none⟩)) := by rw [Lib.cell_of_heap hbk]; rfl
 have c1 : w1.cell? ⟨b, 1, none⟩ = some v := by rw [Lib.cell_of_heap hbk]; rfl
 go_wp2_with (at_builtin; refine Lib.wpList_append_own_stringF _ rfl _ _ 27 9 rfl B 5 i0 Tryz.underlying27 Tryz.underlying9 hi hz0 hz1 hz2 _ _ _ rfl hown s rfl ?c3 ?c4 ?c5 ?_)
 case c3 => unfold maxLen; omega
 case c4 => omega
 case c5 => have := hb1.size; omega
 intro v' w2 hown' hgrow _
 have hlt : b < w1.heap.size := by
  rcases Nat.lt_or_ge b w1.heap.size with h' | h'
  ·exact h'
  ·simp [Array.getElem?_eq_none h'] at hbk
 have hb2 : w2.heap[b]? = some (.cells #[.pointer (some ⟨b, 0, none⟩), v] 94 (0, 0)) := by
  rw [hgrow.block b hlt (fun e => hne e.symm)]
  exact hbk
 have d0 : w2.cell? ⟨b, 0, none⟩ = some (.pointer (some ⟨b, 0, none⟩)) := by rw [Lib.cell_of_heap hb2]; rfl
 have d1 : w2.cell? ⟨b, 1, none⟩ = some v := by rw [Lib.cell_of_heap hb2]; rfl
 have f1 : w2.frozen? ⟨b, 1, none⟩ = false := Lib.frozen_of_heap hb2 1
 obtain ⟨ao, n', cap, rfl⟩ : ∃ ao n' cap, v' = .slice ao n' cap := by
  rcases hown'.2 with ⟨hv, _⟩ | ⟨g, cap, cur, fz, hv, _⟩
  ·exact ⟨_, _, _, hv⟩
  ·exact ⟨_, _, _, hv⟩
 go_wp2
 go_ret2
 refine ⟨rfl, ?_, ?_, (hk1.grown hgrow (Lib.ownsRowF_kind hown)).setCell ⟨b, 1, none⟩ rfl _⟩
 ·exact Lib.BuilderAtF.put (T := 94) (e := 5) hB hb2 (bs' := bs ++ Lib.strCells s) (by simpa [Lib.strCells_length] using hown') (by decide)
 ·exact (hb1.grown hgrow (by have := hb1.size; omega) (fun k hk => (hown.lt k hk).1)).setCell (p := ⟨b, 1, none⟩) hB _
theorem builderAtF_row {T e B b p bs W} (h : Lib.BuilderAtF T e B b p bs W) : ∃ v, W.heap[b]? = some (.cells #[p, v] T (0, 0)) := by
 obtain ⟨_, v, hb, _⟩ := h; exact ⟨v, hb⟩
theorem builderF_row {T e B b bs W} (h : Lib.IsBuilderF T e B b bs W) : ∃ c t f, W.heap[b]? = some (.cells c t f) := by
 rcases h with h | h <;> (obtain ⟨v, hb⟩ := builderAtF_row h; exact ⟨_, _, _, hb⟩)
theorem builderAtF_kept {T e B b p bs} {W W' : World} (h : Lib.BuilderAtF T e B b p bs W) (hk : CellsKept W W') : Lib.BuilderAtF T e B b p bs W' := by
 obtain ⟨hB, v, hb, ⟨hl, hown⟩, hne⟩ := h
 refine ⟨hB, v, hk _ _ _ _ hb, ⟨hl, ?_⟩, hne⟩
 rcases hown with hn | ⟨g, cap, cur, fz, hv, hbg, hg, rest⟩
 ·exact .inl hn
 ·exact .inr ⟨g, cap, cur, fz, hv, hbg, hk _ _ _ _ hg, rest⟩
theorem builderF_kept {T e B b bs} {W W' : World} (h : Lib.IsBuilderF T e B b bs W) (hk : CellsKept W W') : Lib.IsBuilderF T e B b bs W' :=
 h.elim (fun h => .inl (builderAtF_kept h hk)) (fun h => .inr (builderAtF_kept h hk))
theorem builderF_put {T e B b bs} {W : World} (h : Lib.IsBuilderF T e B b bs W) {l r} (hr : W.heap[l]? = some (.loop r)) (o : Obj) : Lib.IsBuilderF T e B b bs (W.putObj l o) :=
 builderF_kept h (CellsKept.put hr o)
theorem builderF_below {T e B b bs} {W W' : World} (h : Lib.IsBuilderF T e B b bs W) (hb : Below W.heap.size W W') : Lib.IsBuilderF T e B b bs W' :=
 builderF_kept h (CellsKept.below hb)
theorem builderF_alloc {T e B b bs} {W : World} (h : Lib.IsBuilderF T e B b bs W) (o : Obj) : Lib.IsBuilderF T e B b bs (W.alloc o) :=
 builderF_kept h (CellsKept.alloc W o)
theorem Bld_new (w : World) : Bld w.heap.size w.heap.size [] (w.alloc (.cells #[.pointer none, .slice none 0 0] 94)) := Lib.IsBuilderF.of (Lib.fresh_isBuilder _ _ w)
theorem byteCells_snoc (l : List UInt8) (c : UInt8) : Lib.byteCells l ++ [.int .u8 c.toNat] = Lib.byteCells (l ++ [c]) := by simp [Lib.byteCells]
theorem byteCells_append (l r : List UInt8) : Lib.byteCells l ++ Lib.byteCells r = Lib.byteCells (l ++ r) := by simp [Lib.byteCells]
theorem wbyte (B b : Nat) (l : List UInt8) (c : UInt8) (n : Int) (w : World) (hn : n = c.toNat) (h : Bld B b l w) (hlen : l.length <= 100000000) (hBw : B <= w.heap.size) :
  Calls Tryz.prog 96 #[.pointer (some ⟨b, 0, none⟩), .int .u8 n] w fun e w' => e = .returned .nilIface /\ Bld B b (l ++ [c]) w' /\ Below B w w' /\ Lib.OthersKept 5 (some b) w w' := by
 subst hn
 refine (writeByte_any B b _ _ w h (by rw [Lib.byteCells_length]; omega) hBw).mono ?_
 rintro e w' ⟨rfl, h1, h2, h3⟩
 exact ⟨rfl, .inr (by rw [<- byteCells_snoc]; exact h1), h2, h3⟩
theorem strCells_bytes (l : List UInt8) : Lib.strCells ⟨l.toArray⟩ = Lib.byteCells l := by simp [Lib.strCells, Lib.byteCells]
theorem wstring (B b : Nat) (l s : List UInt8) (w : World) (h : Bld B b l w) (hlen : l.length <= 100000000) (hs : s.length <= 100000000) (hBw : B <= w.heap.size) :
  Calls Tryz.prog 63 #[.pointer (some ⟨b, 0, none⟩), S s] w fun e w' => e = .returned (.tuple #[.int .i64 s.length, .nilIface]) /\ Bld B b (l ++ s) w' /\ Below B w w' /\ Lib.OthersKept 5 (some b) w w' := by
 refine (writeString_any B b _ _ w h (by rw [Lib.byteCells_length, Go.ByteArray.size_mk_toArray]; omega) hBw).mono ?_
 rintro e w' ⟨rfl, h1, h2, h3⟩
 exact ⟨rfl, .inr (by rw [<- byteCells_append, <- strCells_bytes s]; exact h1), h2, h3⟩
end Go.Proofs.YtgmbefolgppmdaaGreatDoor
end
section
namespace Go.Proofs.YtgmbefolgppmdaaGreatDoor
open Go.RowKit Go.Shelf
set_option maxRecDepth 100000
attribute [local go_sem] Oper.semAt_some
set_option maxHeartbeats 400000 in
theorem octets_any (s : List UInt8) (w : World) :
  Calls Tryz.prog 93 #[S s] w fun e w' => e = .returned (.func (.func 115) #[] #[.pointer (some ⟨w.heap.size, 0, none⟩)]) /\ w.alloc (.cells #[S s] 9) = w' := by
 go_enter Tryz.func93, Tryz.ntmps93
 go_wp2
 go_ret
 exact ⟨rfl, rfl⟩
def octY (s : List UInt8) (k : Nat) (_ : World) (v : Array Value) (k' : Nat) : Prop := ∃ h : k < s.length, v = #[.int .i64 k, .int .u8 s[k].toNat] /\ k' = k + 1
set_option maxHeartbeats 400000 in
theorem octets1_iter (b : Nat) (s : List UInt8) (hs : s.length <= 1000000) :
  Iter Tryz.prog 115 #[.pointer (some ⟨b, 0, none⟩)] (fun W => W.cell? ⟨b, 0, none⟩ = some (S s)) (fun A B => A = B) (sameCell b) (octY s) 0 (fun k => k = s.length) := by
 intro l J Jx W hpre _ _ hY h0
 refine callsIn_of_wp Tryz.func115 rfl trivial ?_ rfl
 simp only [Tryz.ntmps115, List.size_toArray, List.length_cons, List.length_nil, Nat.reduceAdd, Nat.reduceSub, Array.replicate_succ, Array.replicate_zero, List.push_toArray, List.append_toArray, List.nil_append, List.cons_append]
 gi_wp2
 gi_loopw [3] (fun p wr => ∃ k : Nat, k <= s.length /\ p = .int .i64 k /\ J k wr /\ wr.cell? ⟨b, 0, none⟩ = some (S s)) (fun p _ => s.length - (intOf p).toNat)
 case atStart => exact ⟨0, by omega, rfl, h0, hpre⟩
 case round =>
  obtain ⟨k, hk, rfl, hJ, hc⟩ := hrel
  by_cases hlt : k < s.length
  ·obtain ⟨fn, tmps, assign, body, hy, hR⟩ := hY k (k + 1) _ wr hJ ⟨hlt, rfl, rfl⟩
   gi_wp2
   refine hR.mono ?_
   rintro e W3 (⟨rfl, hJ3, hk3⟩ | ⟨rfl, hJx3⟩)
   ·have hc3 : W3.cell? ⟨b, 0, none⟩ = some (S s) := Eq.trans hk3 hc
    gi_wp2
    go_roundw
    case rel => exact ⟨k + 1, by omega, by go_num, hJ3, hc3⟩
    case measure => simp [intOf]; omega
   ·gi_wp2
    refine bodyPost_ret (results_none rfl _ _ _) rfl ?_
    exact ⟨⟨_, rfl⟩, .inr hJx3⟩
  ·obtain rfl : s.length = k := by omega
   gi_wp2
   go_end0
   exact ⟨⟨_, rfl⟩, .inl ⟨_, rfl, hJ⟩⟩
end Go.Proofs.YtgmbefolgppmdaaGreatDoor
end
