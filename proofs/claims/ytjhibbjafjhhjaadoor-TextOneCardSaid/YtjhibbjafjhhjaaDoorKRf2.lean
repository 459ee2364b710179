/- Laws for a range over a function whose body never leaves it early: what the iterator does between two calls of yield may lean on what a round keeps. -/
import Derived.Test.YtjhibbjafjhhjaaDoorKRf
namespace Go.Proofs.YtjhibbjafjhhjaaDoor
open Go.RowKit
set_option maxRecDepth 100000
def Iter2 {σ : Type} (P : Program) (gf : Nat) (lb : Array Value) (Pre : World -> Prop) (St Kp : World -> World -> Prop) (Y : σ -> World -> Array Value -> σ -> Prop) (k0 : σ) (E : σ -> Prop) : Prop :=
 ∀ (l : Nat) (J : σ -> World -> Prop) (W : World), Pre W ->
  (∀ k A B, J k A -> St A B -> J k B) ->
  (∀ k k' v A, J k A -> Y k A v k' -> YieldAt Fence.wide 0 P l v A fun e B => e = .returned (.bool true) /\ J k' B /\ Kp A B) ->
  J k0 W ->
  CallsIn Fence.wide 0 P gf (#[.func (.yield l) #[] #[]] ++ lb) W fun e B => (∃ v, e = .returned v) /\ ∃ k, E k /\ J k B
def rfPost2 {σ : Type} (Kp : World -> World -> Prop) (I : σ -> World -> Prop) (k' : σ) (W : World) : Exit -> Act -> World -> Prop
 | .normal, _, W' => KeepsOthers W W' /\ Kp W W' /\ I k' W'
 | _, _, _ => False
def rfNext2 {σ : Type} (P : Program) (l L : Nat) (Kp : World -> World -> Prop) (I : σ -> World -> Prop) (body : Code) (k' : σ) (W : World) (a₁ : Act) (W₁ : World) : Prop :=
 KeepsOthers W W₁ /\ Kp W W₁ /\ ∀ r o, l = L -> W₁.heap[L]? = some (.loop r) -> body.wpIn (Fence.wide.inRound l) 0 P (rfPost2 Kp I k' (W₁.putObj L (.loop o))) a₁ (W₁.putObj L (.loop o))
variable {P : Program}
theorem rf_outer2 {σ : Type} {g : Operand} {ps : Array Tmp} {assign body : Code} {Q : Exit -> Act -> World -> Prop} {a : Act} {w : World}
  {gf : Nat} {lb : Array Value} (hg : a.eval g = .func (.func gf) #[] lb) (eg : ∀ args w, (callFunc gf args).run P w = .ok (.enter gf args) w)
  {Pre : World -> Prop} {St Kp : World -> World -> Prop} {Y : σ -> World -> Array Value -> σ -> Prop} {k0 : σ} {E : σ -> Prop} (hit : Iter2 P gf lb Pre St Kp Y k0 E)
  (hSt : ∀ A B, St A B -> KeepsOthers A B) (hKt : ∀ A B C, Kp A B -> Kp B C -> Kp A C) (hKb : ∀ A o, Kp A (A.putObj (w.heap.size + 1) o))
  (hps : ∀ k A v k', Y k A v k' -> v.size = ps.size)
  (I : σ -> World -> Prop)
  (hIs : ∀ k A B, I k A -> St A B -> I k B)
  (hIp : ∀ k A r o, I k A -> A.heap[w.heap.size + 1]? = some (.loop r) -> I k (A.putObj (w.heap.size + 1) o))
  (h0 : ∀ r, I k0 ((w.alloc (.deferred (some []))).alloc (.loop r))) (hpre : ∀ r, Pre ((w.alloc (.deferred (some []))).alloc (.loop r)))
  (hround : ∀ l k k' v W, I k W -> Y k W v k' ->
   assign.wpIn (Fence.wide.inRound l) 0 P (Exit.then (rfNext2 P l (w.heap.size + 1) Kp I body k' W) (fun _ _ _ => False)) { tmps := (ps.zip v).foldl (fun t (p, v) => t.setIfInBounds p v) a.tmps, defers := [] } W)
  (hdone : ∀ k W, E k -> I k W -> W.heap[w.heap.size]? = some (.deferred (some [])) -> Q .normal { a with defers := { target := .collected w.heap.size, args := #[] } :: a.defers } W) :
  (Code.rangeFunc g ps assign body).wpIn Fence.wide 0 P Q a w := by
 refine wpIn_rangeFunc ?_
 intro fn hfn
 obtain ⟨rec, hrec⟩ : ∃ rec : LoopState -> Option Code -> Loop, rec = fun st pe => { state := st, pending := pe, fn, tmps := a.tmps, params := ps, assign, body, defers := w.heap.size } := ⟨_, rfl⟩
 obtain ⟨W1, hW1⟩ : ∃ W1, (w.alloc (.deferred (some []))).alloc (.loop (rec .ready none)) = W1 := ⟨_, rfl⟩
 have hL1 : W1.heap[w.heap.size + 1]? = some (.loop (rec .ready none)) := by
  rw [<- hW1]; have := World.alloc_heap_new (w.alloc (.deferred (some []))) (.loop (rec .ready none)); rwa [World.size_alloc] at this
 have hK1 : W1.heap[w.heap.size]? = some (.deferred (some [])) := by
  rw [<- hW1]; exact (Below.heap_alloc _ _ _ (by simp)).trans (World.alloc_heap_new w _)
 have hI1 : I k0 W1 := by rw [<- hW1]; exact h0 _
 have hP1 : Pre W1 := by rw [<- hW1]; exact hpre _
 refine ⟨w.heap.size + 1, [{ target := .collected w.heap.size, args := #[] }], W1, { target := .fn (.func gf) lb, args := #[.func (.yield (w.heap.size + 1)) #[] #[]] }, W1, gf,
  #[.func (.yield (w.heap.size + 1)) #[] #[]] ++ lb, W1, ?_, ?_, ?_, ?_, wide_le, ?_⟩
 ·rw [<- hW1, hrec]; exact run_enterLoop_outer _ _ _ _ _
 ·simp only [resolve, hg]
  simp [go_sem]
 ·intro f' _; trivial
 ·simp [invoke, go_sem, eg]
 ·refine (hit (w.heap.size + 1)
   (fun k W => I k W /\ W.heap[w.heap.size + 1]? = some (.loop (rec .ready none)) /\ W.heap[w.heap.size]? = some (.deferred (some [])))
   W1 hP1
   (fun k A B hs hst => ⟨hIs k A B hs.1 hst, (hSt A B hst).same _ _ hs.2.1 rfl, (hSt A B hst).same _ _ hs.2.2 rfl⟩)
   ?_ ⟨hI1, hL1, hK1⟩).mono ?_
  ·rintro k k' v W ⟨hi, hl, hk⟩ hyv
   have hlt : w.heap.size + 1 < W.heap.size := (Array.getElem?_eq_some_iff.1 hl).1
   have hy := run_yield (P := P) (args := v) hl (by rw [hrec]; exact hps k W v k' hyv)
   rw [hrec] at hy
   refine ⟨fn, _, assign, body, hy, roundIn_of_wpIn hfn (wpIn_mono (hround _ k k' v W hi hyv) ?_)⟩
   clear hy
   intro e a₁ Wa hx
   cases e with
   | exit id => exact hx.elim
   | goto t => exact hx.elim
   | ret => exact hx.elim
   | panic ch => exact hx.elim
   | outgrown => exact hx.elim
   | normal =>
   obtain ⟨hkfa, hkpa, hbody⟩ := hx
   replace hl := hkfa.same _ _ hl rfl
   replace hk := hkfa.same _ _ hk rfl
   replace hlt : w.heap.size + 1 < Wa.heap.size := (Array.getElem?_eq_some_iff.1 hl).1
   refine ⟨_, run_beginRound hl (by rw [hrec]), ?_⟩
   revert hkpa hkfa
   generalize W = Wb
   intro hkfa hkpa
   obtain ⟨W, rfl⟩ : ∃ W, W = Wa := ⟨_, rfl⟩
   have hl2 : (W.putObj (w.heap.size + 1) (.loop { rec .ready none with state := .busy })).heap[w.heap.size + 1]? = some (.loop { rec .ready none with state := .busy }) := World.putObj_heap_same hlt
   have hk2 : (W.putObj (w.heap.size + 1) (.loop { rec .ready none with state := .busy })).heap[w.heap.size]? = some (.deferred (some [])) := (World.putObj_heap_other (by omega)).trans hk
   have hw2 : Kp W (W.putObj (w.heap.size + 1) (.loop { rec .ready none with state := .busy })) := hKb _ _
   refine wpIn_mono (hbody _ _ rfl hl) ?_
   have fin : ∀ (jump : Option Code) (W3 : World), KeepsOthers (W.putObj (w.heap.size + 1) (.loop { rec .ready none with state := .busy })) W3 ->
     (Instr.endRound (w.heap.size + 1) jump).run P W3 = .ok (.bool jump.isNone) (W3.putObj (w.heap.size + 1) (.loop (rec (if jump.isNone then .ready else .done) jump))) /\
     (∃ r, W3.heap[w.heap.size + 1]? = some (.loop r)) /\
     (W3.putObj (w.heap.size + 1) (.loop (rec (if jump.isNone then .ready else .done) jump))).heap[w.heap.size + 1]? = some (.loop (rec (if jump.isNone then .ready else .done) jump)) /\
     (W3.putObj (w.heap.size + 1) (.loop (rec (if jump.isNone then .ready else .done) jump))).heap[w.heap.size]? = some (.deferred (some [])) := fun jump W3 hk3 => by
    have hl3 := hk3.same _ _ hl2 rfl
    have hl3' : ∃ r, W3.heap[w.heap.size + 1]? = some (.loop r) := ⟨_, hl3⟩
    have := run_endRound (P := P) jump hl3
    rw [hrec] at this ⊢
    exact ⟨this, hl3', World.putObj_heap_same (Array.getElem?_eq_some_iff.1 hl3).1, (World.putObj_heap_other (by omega)).trans (hk3.same _ _ hk2 rfl)⟩
   rintro e a3 W3 hp
   cases e with
   | normal =>
    obtain ⟨hk3, hkp3, hi3⟩ := hp
    obtain ⟨hr, ⟨_, hl3⟩, hl4, hk4⟩ := fin none W3 hk3
    exact ⟨_, _, hr, rfl, ⟨hIp _ _ _ _ hi3 hl3, hl4, hk4⟩, hKt _ _ _ hkpa (hKt _ _ _ (hKt _ _ _ hw2 hkp3) (hKb _ _))⟩
   | ret => exact hp.elim
   | exit id => exact hp.elim
   | goto t => exact hp.elim
   | panic ch => exact hp.elim
   | outgrown => exact hp.elim
  ·rintro e W2 ⟨⟨v, rfl⟩, k, hS, hi, hl, hk⟩
   exact ⟨none, _, by have := run_endLoop (P := P) hl (by rw [hrec]; simp); rw [hrec] at this; exact this, hdone k _ hS (hIp _ _ _ _ hi hl) ((World.putObj_heap_other (by omega)).trans hk)⟩
end Go.Proofs.YtjhibbjafjhhjaaDoor
