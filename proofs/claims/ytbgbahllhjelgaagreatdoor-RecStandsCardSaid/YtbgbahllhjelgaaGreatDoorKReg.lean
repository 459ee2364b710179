/- Steps of a drawn region, in short words. -/
import Derived.OrdersIn
import Derived.TacticsIn
import Derived.RangeFuncCalls
import Derived.Test.YtbgbahllhjelgaaGreatDoorKRf
section
section
/- A region that draws its order, inside a round or not: what only reads under a held fact S is taken first; the rest comes up one by one. -/
namespace Go.Proofs.YtbgbahllhjelgaaGreatDoor
open Go
set_option maxRecDepth 100000
section
variable {F : Fence} {n : Nat} {P : Program} {ops : Array Oper} {Q : Exit -> Act -> World -> Prop}
def NoPan (Q : Exit -> Act -> World -> Prop) : Exit -> Act -> World -> Prop
 | .panic _, _, _ => False
 | e, a, w => Q e a w
theorem NoPan.imp : ∀ (e : Exit) (a : Act) (w : World), NoPan Q e a w -> Q e a w := fun e a w h => by
 cases e <;> first | exact h | exact (h : False).elim
def noDefer (ops : Array Oper) : Bool := ops.all fun o => match o.op with | .defer _ => false | _ => true
theorem noDefer_spec (h : noDefer ops = true) {j : Nat} {o : Oper} (ho : ops[j]? = some o) (ro : Option Nat) (ρ : Operand -> Value) : o.semAt ro ρ = execOp ρ o := by
 have := Array.all_eq_true_iff_forall_mem.1 h o (Array.mem_of_getElem? ho)
 unfold Oper.semAt
 split
 ·rename_i heq; simp [heq] at this
 ·rfl
def wpAnyH (F : Fence) (n : Nat) (P : Program) (ops : Array Oper) (Q : Exit -> Act -> World -> Prop) (N : List Nat) (S : World -> Prop) : Nat -> Array Bool -> Act -> World -> Prop
 | 0, listed, a, w => Region.ready .any ops listed = [] /\ Q .normal a w
 | fuel + 1, listed, a, w =>
  (Region.ready .any ops listed = [] -> Q .normal a w) /\
  ∀ i ∈ Region.ready .any ops listed, wpOpIn F n P ops Q i (fun a' w' => (i ∈ N -> S w') /\ wpAnyH F n P ops Q N S fuel (listed.setIfInBounds i true) a' w') a w
theorem wpAnyH.out {N : List Nat} {S : World -> Prop} : ∀ (fuel : Nat) (listed : Array Bool) (a : Act) (w : World), wpAnyH F n P ops Q N S fuel listed a w -> wpAnyIn F n P .any ops Q fuel listed a w := by
 intro fuel
 induction fuel with
 | zero => intro listed a w h; exact h
 | succ fuel ih => intro listed a w h; exact ⟨h.1, fun i hi => wpOpIn_mono (fun a' w' h' => ih _ _ _ h'.2) (h.2 i hi)⟩
theorem drawnH {id : Nat} {a : Act} {w : World} (N : List Nat) (S : World -> Prop) (m : Nat) (hsz : ops.size = m) (hm : P.follows .mixedOrders = true)
  (h : ∀ w', w' = w.drew -> wpAnyH F n P ops (NoPan Q) N S m (Array.replicate m false) a w') : (Code.region id ops true).wpIn F n P Q a w :=
 wpIn_mono (wpIn_region_any hm (wpAnyH.out _ _ _ _ (by rw [hsz]; exact h _ rfl))) NoPan.imp
def YieldsS (P : Program) (ops : Array Oper) (S : World -> Prop) (o : Oper) (v : Value) (a : Act) : Prop :=
 (Region.wanted o (yielded ops a.tmps) = true /\ ∀ w, S w -> (execOp a.eval o).run P w = .ok (.value v) w) \/ (Region.wanted o (yielded ops a.tmps) = false /\ v = undef)
theorem YieldsS.wpOpIn (hF : ∀ f, F.fn f) (hnd : noDefer ops = true) {S : World -> Prop} {i : Nat} {o : Oper} {v : Value} {a : Act} (hi : ops[i]? = some o) (hy : YieldsS P ops S o v a)
  {K : Act -> World -> Prop} {w : World} (hs : S w) (h : K (a.put o.dst v) w) : wpOpIn F n P ops Q i K a w := by
 unfold Go.wpOpIn
 simp only [hi]
 rcases hy with ⟨hw, hv⟩ | ⟨hw, rfl⟩
 ·simp only [hw, if_true, Oper.wpIn, noDefer_spec hnd hi, hv w hs, Oper.uponIn]; exact ⟨fun f _ => hF f, h⟩
 ·simp only [hw, Bool.false_eq_true, if_false]; exact ⟨fun f _ => hF f, h⟩
theorem YieldsS.of_same {S : World -> Prop} {o : Oper} {v : Value} {a a' : Act} (hy : YieldsS P ops S o v a) (he : execOp a'.eval o = execOp a.eval o)
  (hw : Region.wanted o (yielded ops a'.tmps) = Region.wanted o (yielded ops a.tmps)) : YieldsS P ops S o v a' := by
 rcases hy with ⟨h1, h2⟩ | ⟨h1, h2⟩
 ·exact .inl ⟨by rw [hw]; exact h1, fun w hs => by rw [he]; exact h2 w hs⟩
 ·exact .inr ⟨by rw [hw]; exact h1, h2⟩
theorem wpOpIn_putS (hF : ∀ f, F.fn f) (hnd : noDefer ops = true) {S : World -> Prop} {j : Nat} {oi oj : Oper} {v : Value} (hj : ops[j]? = some oj) (hap : oi.apart ops oj = true)
  (hsi : ∀ cs b, oi.op ≠ .select cs b) (hsj : ∀ cs b, oj.op ≠ .select cs b)
  {K : Act -> World -> Prop} {a : Act} {w : World} (hy : YieldsS P ops S oi v a) (h : wpOpIn F n P ops (NoPan Q) j K (a.put oi.dst v) w) :
  wpOpIn F n P ops (NoPan Q) j (fun a' w' => YieldsS P ops S oi v a' /\ K (a'.put oi.dst v) w') a w := by
 obtain ⟨h1, h2, h3⟩ := Oper.apart_spec hap
 have keep : ∀ (a : Act), YieldsS P ops S oi v a -> ∀ u, YieldsS P ops S oi v (a.put oj.dst u) := fun a hy u =>
  hy.of_same (execOp_put oi hsi a oj.dst u h3) (wanted_put oi a oj.dst u h3)
 have keepD : ∀ d, YieldsS P ops S oi v { a with defers := d :: a.defers } := fun d => hy.of_same rfl rfl
 have hj' := hj
 unfold wpOpIn at *
 simp only [hj] at h ⊢
 rw [wanted_put oj a oi.dst v h1] at h
 split
 ·rename_i hw
  simp only [hw, if_true] at h
  unfold Oper.wpIn at *
  refine ⟨fun f _ => hF f, ?_⟩
  have h := h.2
  rw [noDefer_spec hnd hj, execOp_put oj hsj a oi.dst v h1] at h
  rw [noDefer_spec hnd hj]
  generalize (execOp a.eval oj).run P w = r at *
  cases r with
  | ok x w' =>
   cases x <;> simp only [Oper.uponIn] at h ⊢
   case value u => exact ⟨keep a hy u, by rw [<- Act.put_comm a v u h2]; exact h⟩
   case skip => exact ⟨keep a hy _, by rw [<- Act.put_comm a v undef h2]; exact h⟩
   case defer d =>
    refine ⟨keep _ (keepD d) _, ?_⟩
    rw [<- Act.put_comm _ v undef h2, <- Act.put_defers]
    exact h
   case enter f args =>
    refine ⟨h.1, CallsIn.mono h.2 fun e w'' he => ?_⟩
    cases e with
    | returned u => exact ⟨keep a hy u, by rw [<- Act.put_comm a v u h2]; exact he⟩
    | panicked c => exact (he : False).elim
    | outgrown => exact he
   case row row args => exact ⟨h.1, RowsIn.mono h.2 fun u w'' he => ⟨keep a hy u, by rw [<- Act.put_comm a v u h2]; exact he⟩⟩
   case round l f tmps assign body =>
    refine ⟨h.1, RoundIn.mono h.2 fun e w'' he => ?_⟩
    cases e with
    | returned u => exact ⟨keep a hy u, by rw [<- Act.put_comm a v u h2]; exact he⟩
    | panicked c => exact (he : False).elim
    | outgrown => exact he
  | halt x w' =>
   cases x <;> simp only [Oper.uponIn] at h ⊢
   case panic u => exact (h : False).elim
 ·rename_i hw
  simp only [hw] at h
  exact ⟨fun f _ => hF f, keep a hy _, by rw [<- Act.put_comm a v undef h2]; exact h.2⟩
def aheadIn (ops : Array Oper) (N : List Nat) (listed : Array Bool) (i : Nat) : Bool :=
 (List.range ops.size).all fun j => j == i || listed.getD j true || N.contains j || match ops[j]? with
  | some oj => oj.after.toList.any (fun e => e.on == i && Region.binds .any e)
  | none => true
theorem aheadIn_spec {N : List Nat} {listed : Array Bool} {i j : Nat} {oj : Oper} (h : aheadIn ops N listed i = true) (hj : ops[j]? = some oj) (hne : j ≠ i) (hun : listed.getD j true = false)
  (hno : ∀ e ∈ oj.after, Region.binds .any e = true -> e.on ≠ i) : j ∈ N := by
 simp only [aheadIn, List.all_eq_true, List.mem_range] at h
 have h1 := h j (Array.getElem?_eq_some_iff.1 hj).1
 simp only [hj, Bool.or_eq_true, beq_iff_eq, hne, false_or, hun, Bool.false_eq_true] at h1
 rcases h1 with h1 | h1
 ·simpa using h1
 ·obtain ⟨e, he, hb⟩ := List.any_eq_true.1 h1
  simp only [Bool.and_eq_true, beq_iff_eq] at hb
  exact absurd hb.1 (hno e (Array.mem_toList_iff.1 he) hb.2)
theorem wpAnyH_first (hF : ∀ f, F.fn f) (hnd : noDefer ops = true) (hsel : Region.noSelect ops = true) {N : List Nat} {S : World -> Prop} {i : Nat} {oi : Oper} {v : Value} (hi : ops[i]? = some oi) :
  ∀ (fuel : Nat) (listed : Array Bool) (a : Act) (w : World),
   (∀ j oj, ops[j]? = some oj -> j ≠ i -> listed.getD j true = false -> (∀ e ∈ oj.after, Region.binds .any e = true -> e.on ≠ i) -> oi.apart ops oj = true /\ j ∈ N) ->
   i ∈ Region.ready .any ops listed -> YieldsS P ops S oi v a -> S w ->
   wpAnyH F n P ops (NoPan Q) N S fuel (listed.setIfInBounds i true) (a.put oi.dst v) w -> wpAnyH F n P ops (NoPan Q) N S (fuel + 1) listed a w := by
 intro fuel
 induction fuel with
 | zero =>
  intro listed a w _ hr hy hs H
  refine ⟨fun h => (by rw [h] at hr; cases hr), fun j hj => ?_⟩
  by_cases hji : j = i
  ·subst hji; exact hy.wpOpIn hF hnd hi hs ⟨fun _ => hs, H⟩
  ·have := ready_mono hj hji
   rw [H.1] at this
   cases this
 | succ fuel ih =>
  intro listed a w hfree hr hy hs H
  refine ⟨fun h => (by rw [h] at hr; cases hr), fun j hj => ?_⟩
  by_cases hji : j = i
  ·subst hji; exact hy.wpOpIn hF hnd hi hs ⟨fun _ => hs, H⟩
  ·have h1 := H.2 j (ready_mono hj hji)
   obtain ⟨hjun, oj, hoj, hall⟩ := mem_ready.1 hj
   have hnot : ∀ e ∈ oj.after, Region.binds .any e = true -> e.on ≠ i := fun e he hb heq => by
    have h1 := hall e he hb
    have h0 := (mem_ready.1 hr).1
    rw [heq] at h1
    rcases Nat.lt_or_ge i listed.size with h' | h'
    ·simp [h'] at h0 h1; rw [h0] at h1; cases h1
    ·simp [Array.getElem?_eq_none h'] at h1
   obtain ⟨hap, hN⟩ := hfree j oj hoj hji hjun hnot
   have h2 := wpOpIn_putS hF hnd hoj hap (fun cs b => Region.noSelect_spec hsel i oi cs b hi) (fun cs b => Region.noSelect_spec hsel j oj cs b hoj) hy h1
   have hfree' : ∀ k ok, ops[k]? = some ok -> k ≠ i -> (listed.setIfInBounds j true).getD k true = false ->
     (∀ e ∈ ok.after, Region.binds .any e = true -> e.on ≠ i) -> oi.apart ops ok = true /\ k ∈ N := fun k ok hk hki hun hno => by
    refine hfree k ok hk hki ?_ hno
    by_cases hjk : j = k
    ·subst hjk; exact hjun
    ·rw [getD_set_ne true hjk] at hun; exact hun
   refine wpOpIn_mono (fun a' w' h3 => ⟨fun _ => h3.2.1 hN, ih (listed.setIfInBounds j true) a' w' hfree' (ready_mono hr (Ne.symm hji)) h3.1 (h3.2.1 hN) ?_⟩) h2
   rw [Array.setIfInBounds_comm _ _ hji]
   exact h3.2.2
theorem wpAnyP_first (hF : ∀ f, F.fn f) (hnd : noDefer ops = true) (hsel : Region.noSelect ops = true) {N : List Nat} {S : World -> Prop} {i : Nat} {oi : Oper} {v : Value} (hi : ops[i]? = some oi) :
  ∀ (fuel : Nat) (listed : Array Bool) (a : Act) (w : World),
   (∀ j oj, ops[j]? = some oj -> j ≠ i -> listed.getD j true = false -> (∀ e ∈ oj.after, Region.binds .any e = true -> e.on ≠ i) -> oi.apart ops oj = true) ->
   i ∈ Region.ready .any ops listed -> YieldsS P ops (fun _ => True) oi v a ->
   wpAnyH F n P ops (NoPan Q) N S fuel (listed.setIfInBounds i true) (a.put oi.dst v) w -> i ∉ N -> wpAnyH F n P ops (NoPan Q) N S (fuel + 1) listed a w := by
 intro fuel
 induction fuel with
 | zero =>
  intro listed a w _ hr hy H hs
  refine ⟨fun h => (by rw [h] at hr; cases hr), fun j hj => ?_⟩
  by_cases hji : j = i
  ·subst hji; exact hy.wpOpIn hF hnd hi trivial ⟨fun hN => absurd hN hs, H⟩
  ·have := ready_mono hj hji
   rw [H.1] at this
   cases this
 | succ fuel ih =>
  intro listed a w hfree hr hy H hs
  refine ⟨fun h => (by rw [h] at hr; cases hr), fun j hj => ?_⟩
  by_cases hji : j = i
  ·subst hji; exact hy.wpOpIn hF hnd hi trivial ⟨fun hN => absurd hN hs, H⟩
  ·have h1 := H.2 j (ready_mono hj hji)
   obtain ⟨hjun, oj, hoj, hall⟩ := mem_ready.1 hj
   have hnot : ∀ e ∈ oj.after, Region.binds .any e = true -> e.on ≠ i := fun e he hb heq => by
    have h1 := hall e he hb
    have h0 := (mem_ready.1 hr).1
    rw [heq] at h1
    rcases Nat.lt_or_ge i listed.size with h' | h'
    ·simp [h'] at h0 h1; rw [h0] at h1; cases h1
    ·simp [Array.getElem?_eq_none h'] at h1
   have hap := hfree j oj hoj hji hjun hnot
   have h2 := wpOpIn_putS hF hnd hoj hap (fun cs b => Region.noSelect_spec hsel i oi cs b hi) (fun cs b => Region.noSelect_spec hsel j oj cs b hoj) hy h1
   have hfree' : ∀ k ok, ops[k]? = some ok -> k ≠ i -> (listed.setIfInBounds j true).getD k true = false ->
     (∀ e ∈ ok.after, Region.binds .any e = true -> e.on ≠ i) -> oi.apart ops ok = true := fun k ok hk hki hun hno => by
    refine hfree k ok hk hki ?_ hno
    by_cases hjk : j = k
    ·subst hjk; exact hjun
    ·rw [getD_set_ne true hjk] at hun; exact hun
   ·refine wpOpIn_mono (fun a' w' h3 => ⟨h3.2.1, ih (listed.setIfInBounds j true) a' w' hfree' (ready_mono hr (Ne.symm hji)) h3.1 ?_ ?_⟩) h2
    ·rw [Array.setIfInBounds_comm _ _ hji]
     exact h3.2.2
    ·exact fun hN => absurd hN hs
theorem takeP (i : Nat) {oi : Oper} {v : Value} {fuel : Nat} {listed : Array Bool} {a : Act} {w : World} {N : List Nat} {S : World -> Prop} (hF : ∀ f, F.fn f) (hi : ops.toList[i]? = some oi)
  (hst : (noDefer ops && Region.noSelect ops && Region.free .any ops listed i && (Region.ready .any ops listed).contains i) = true)
  (hy : YieldsS P ops (fun _ => True) oi v a)
  (h : wpAnyH F n P ops (NoPan Q) N S fuel (listed.setIfInBounds i true) (a.put oi.dst v) w) (hs : N.contains i = false := by decide) : wpAnyH F n P ops (NoPan Q) N S (fuel + 1) listed a w := by
 simp only [Bool.and_eq_true] at hst
 obtain ⟨⟨⟨h1, h2⟩, h3⟩, h4⟩ := hst
 have hi' : ops[i]? = some oi := by rw [<- Array.getElem?_toList]; exact hi
 exact wpAnyP_first hF h1 h2 hi' fuel listed a w (fun j oj hj hne hun hno => Region.free_spec hi' h3 j oj hj hne hun hno) (by simpa using h4) hy h (by simpa using hs)
theorem takeH (i : Nat) {oi : Oper} {v : Value} {fuel : Nat} {listed : Array Bool} {a : Act} {w : World} {N : List Nat} {S : World -> Prop} (hF : ∀ f, F.fn f) (hi : ops.toList[i]? = some oi)
  (hst : (noDefer ops && Region.noSelect ops && Region.free .any ops listed i && (Region.ready .any ops listed).contains i && aheadIn ops N listed i) = true)
  (hs : S w) (hy : YieldsS P ops S oi v a)
  (h : wpAnyH F n P ops (NoPan Q) N S fuel (listed.setIfInBounds i true) (a.put oi.dst v) w) : wpAnyH F n P ops (NoPan Q) N S (fuel + 1) listed a w := by
 simp only [Bool.and_eq_true] at hst
 obtain ⟨⟨⟨⟨h1, h2⟩, h3⟩, h4⟩, h5⟩ := hst
 replace hi : ops[i]? = some oi := by rw [<- Array.getElem?_toList]; exact hi
 exact wpAnyH_first hF h1 h2 hi fuel listed a w (fun j oj hj hne hun hno => ⟨Region.free_spec hi h3 j oj hj hne hun hno, aheadIn_spec h5 hj hne hun hno⟩) (by simpa using h4) hy hs h
theorem letsOut_then {K : Act -> World -> Prop} {Q : Exit -> Act -> World -> Prop} (h : LetsOut (Exit.then K Q)) : LetsOut Q := by
 obtain ⟨a, w, h⟩ := h; exact ⟨a, w, h⟩
theorem oneH (i : Nat) {oi : Oper} {fuel : Nat} {listed : Array Bool} {a : Act} {w : World} {N : List Nat} {S : World -> Prop} (hi : ops.toList[i]? = some oi)
  (hr : Region.ready .any ops listed = [i])
  (h : ∀ K : Act -> World -> Prop, (∀ a' w', (i ∈ N -> S w') -> wpAnyH F n P ops (NoPan Q) N S fuel (listed.setIfInBounds i true) a' w' -> K a' w') ->
   wpListIn F n P ops (Exit.then K (NoPan Q)) [oi] a w) : wpAnyH F n P ops (NoPan Q) N S (fuel + 1) listed a w := by
 replace hi : ops[i]? = some oi := by rw [<- Array.getElem?_toList]; exact hi
 refine ⟨fun h0 => (by rw [hr] at h0; cases h0), fun j hj => ?_⟩
 rw [hr, List.mem_singleton] at hj
 subst hj
 have := h _ (fun a' w' h1 h2 => (⟨h1, h2⟩ : (j ∈ N -> S w') /\ wpAnyH F n P ops (NoPan Q) N S fuel (listed.setIfInBounds j true) a' w'))
 unfold wpOpIn
 simp only [wpListIn] at this
 simp only [hi]
 by_cases hw : Region.wanted oi (yielded ops a.tmps) = true
 ·rw [if_pos hw] at this ⊢
  refine ⟨this.1, ?_⟩
  have h2 := this.2
  generalize (oi.semAt F.round a.eval).run P w = r at *
  cases r with
  | ok x w' =>
   cases x <;> simp only [Oper.uponIn] at h2 ⊢
   case value u => exact h2
   case skip => exact h2
   case defer d => exact h2
   case enter f args =>
    refine ⟨h2.1, CallsIn.mono h2.2 fun e w'' he => ?_⟩
    cases e with
    | returned u => exact he
    | panicked c => exact he
    | outgrown => exact letsOut_then he
   case row row args => exact ⟨h2.1, RowsIn.mono h2.2 fun u w'' he => he⟩
   case round l f tmps assign body =>
    refine ⟨h2.1, RoundIn.mono h2.2 fun e w'' he => ?_⟩
    cases e with
    | returned u => exact he
    | panicked c => exact he
    | outgrown => exact letsOut_then he
  | halt x w' => cases x <;> simp only [Oper.uponIn] at h2 ⊢ <;> exact h2
 ·rw [if_neg hw] at this ⊢
  exact this
theorem doneH {fuel : Nat} {listed : Array Bool} {a : Act} {w : World} {N : List Nat} {S : World -> Prop} (hr : Region.ready .any ops listed = []) (h : Q .normal a w) :
  wpAnyH F n P ops (NoPan Q) N S fuel listed a w := by
 cases fuel with
 | zero => exact ⟨hr, h⟩
 | succ fuel => exact ⟨fun _ => h, fun i hi => by rw [hr] at hi; cases hi⟩
end
end Go.Proofs.YtbgbahllhjelgaaGreatDoor
end
section
/- A slice that the call itself makes and appends to, its blocks named by R; what a slice of texts reads as. -/
namespace Go.Proofs.YtbgbahllhjelgaaGreatDoor
open Go.RowKit Go.Shelf
set_option maxRecDepth 100000
def Row (R : Nat -> Prop) (e : TypeId) (sz : Nat) (v : Value) (n : Nat) (xs : List Value) (W : World) : Prop := W.ownsRow 0 e sz v n xs /\ ∀ g, v.ownBlock = some g -> R g
theorem Row.nil (R : Nat -> Prop) (e : TypeId) (sz : Nat) (W : World) : Row R e sz (.slice none 0 0) 0 [] W := ⟨World.ownsRow_nil W 0 e sz, fun g h => by simp [Value.ownBlock] at h⟩
theorem Row.mono {R R' : Nat -> Prop} {e sz v n xs W} (h : Row R e sz v n xs W) (hr : ∀ g, R g -> R' g) : Row R' e sz v n xs W := ⟨h.1, fun g hg => hr g (h.2 g hg)⟩
theorem Row.kept {R e sz v n xs} {W W' : World} (h : Row R e sz v n xs W) (hk : ∀ g c t f, v.ownBlock = some g -> W.heap[g]? = some (.cells c t f) -> W'.heap[g]? = some (.cells c t f)) : Row R e sz v n xs W' := by
 obtain ⟨⟨hl, ho⟩, hr⟩ := h
 refine ⟨⟨hl, ?_⟩, hr⟩
 rcases ho with hn | ⟨g, cap, cur, hv, hb, hg, r⟩
 ·exact .inl hn
 ·exact .inr ⟨g, cap, cur, hv, hb, hk g _ _ _ (by rw [hv]; rfl) hg, r⟩
theorem Row.below {R e sz v n xs} {W W' : World} (h : Row R e sz v n xs W) (hb : Below W.heap.size W W') : Row R e sz v n xs W' := h.kept fun g c t f _ hg => CellsKept.below hb g c t f hg
theorem Row.alloc {R e sz v n xs} {W : World} (h : Row R e sz v n xs W) (o : Obj) : Row R e sz v n xs (W.alloc o) := h.kept fun g c t f _ hg => CellsKept.alloc W o g c t f hg
theorem Row.put {R e sz v n xs} {W : World} (h : Row R e sz v n xs W) {l r} (hr : W.heap[l]? = some (.loop r)) (o : Obj) : Row R e sz v n xs (W.putObj l o) := h.kept fun g c t f _ hg => CellsKept.put hr o g c t f hg
theorem Row.setOther {R e sz v n xs} {W : World} (h : Row R e sz v n xs W) {b o : Nat} (hb : ¬ R b) (u : Value) : Row R e sz v n xs (W.setCell ⟨b, o, none⟩ u) :=
 h.kept fun g c t f hv hg => (Below.heap_setCell _ _ _ _ (fun e => hb (by have := h.2 g hv; rw [e] at this; exact this))).trans hg
theorem Row.drew {R e sz v n xs} {W : World} (h : Row R e sz v n xs W) : Row R e sz v n xs W.drew := h.kept fun _ _ _ _ _ hg => hg
theorem Box.grown {b t v W W' row} {R : Nat -> Prop} (h : Box b t v W) (hg : W.grownBy W' row) (hr : ∀ g, row = some g -> R g) (hb : ¬ R b) : Box b t v W' :=
 (hg.block b h.lt (fun e => hb (hr b e.symm))).trans h
theorem Row.notLoop {R e sz v n xs W} (h : Row R e sz v n xs W) {j : Nat} {o : Obj} (hv : v.ownBlock = some j) (ho : W.heap[j]? = some o) : o.isCells = true := by
 obtain ⟨⟨_, ho'⟩, _⟩ := h
 rcases ho' with ⟨rfl, _⟩ | ⟨g, cap, cur, rfl, _, hg, _⟩
 ·simp [Value.ownBlock] at hv
 ·simp only [Value.ownBlock, Option.some.injEq] at hv; subst hv; rw [hg] at ho; cases ho; rfl
theorem Row.at {R e v n xs W} (h : Row R e 1 v n xs W) (hn : 0 < n) : ∃ g cap, v = .slice (some ⟨g, 0, none⟩) n cap /\ R g /\ n <= cap /\ cap <= maxLen /\ (∀ j (hj : j < xs.length), W.cell? ⟨g, j, none⟩ = some xs[j]) /\ (∀ j, W.frozen? ⟨g, j, none⟩ = false) /\
  (∀ j u, u.oneCell' = true -> Row R e 1 v n (xs.set j u) (W.setCell ⟨g, j, none⟩ u)) := by
 obtain ⟨⟨hl, ho⟩, hr⟩ := h
 rcases ho with ⟨rfl, rfl⟩ | ⟨g, cap, cur, rfl, _, hg, h1, h2, h3, h4⟩
 ·omega
 ·rw [Nat.mul_one] at h4 hl h3
  refine ⟨g, cap, rfl, hr g rfl, h1, h2, fun j hj => ?_, fun j => ?_, fun j u _ => ?_⟩
  ·rw [cell_of_row W g j _ _ _ hg]
   have := congrArg (fun l => l[j]?) h4
   simp only [List.getElem?_take, show j < n by omega, if_true, List.getElem?_eq_getElem hj] at this
   simpa using this
  ·simp [World.frozen?, hg]
  ·refine ⟨⟨by simpa using hl, .inr ⟨g, cap, cur.setIfInBounds j u, rfl, by omega, ?_, h1, h2, by simpa using h3, ?_⟩⟩, hr⟩
   ·simp [World.setCell, Array.getElem?_modify, hg]
   ·rw [Nat.mul_one, Array.toList_setIfInBounds, List.take_set, h4]
theorem Row.form {R e sz v n xs W} (h : Row R e sz v n xs W) : ∃ a cap, v = .slice a n cap := by
 obtain ⟨⟨_, ho⟩, _⟩ := h
 rcases ho with ⟨rfl, rfl⟩ | ⟨g, cap, cur, rfl, _⟩
 ·exact ⟨_, _, rfl⟩
 ·exact ⟨_, _, rfl⟩
theorem Row.keepsOthers {R e sz v n xs} {W W' : World} (h : Row R e sz v n xs W) (hg : W.grownBy W' v.ownBlock) : KeepsOthers W W' := KeepsOthers.of_grownBy hg fun _ _ hj ho => h.notLoop hj ho
section
variable {F : Fence} {n : Nat} {P : Program}
theorem append_in (R : Nat -> Prop) {ops : Array Oper} {rest : List Oper} {o : Oper} {a : Act} {w : World} {Q : Exit -> Act -> World -> Prop}
  (hg : o.guard = none) (s x : Operand) (t : TypeId) (hop : o.op = Op.call { callee := Callee.builtin Builtin.append, args := #[s, x], argTypes := #[t, t] })
  (e : TypeId) (i : TypeInfo) (z : Value) (sz bytes : Nat) (h1 : P.underlying t = some (.slice e)) (h2 : P.info? e = some i) (h3 : i.zero = some z) (h4 : i.size = sz) (h5 : i.bytes = bytes) (h6 : z.cells.size = sz) (h7 : 0 < sz)
  (v : Value) (k : Nat) (xs : List Value) (hs : a.eval s = v) (hrow : Row R e sz v k xs w) (ad : Addr) (m c : Nat) (news : List Value) (hx : a.eval x = .slice (some ad) m c) (hn : news.length = m * sz)
  (hc : ∀ j u, news[j]? = some u -> w.cell? (ad.add j) = some u) (h1c : ∀ u ∈ news, u.oneCell' = true) (b1 : k + m <= maxLen) (b2 : (k + m) * bytes <= 140737488355328) (hR : R w.heap.size)
  (hK : ∀ v' w', Row R e sz v' (k + m) (xs ++ news) w' -> w.grownBy w' v.ownBlock -> (v' = .slice none 0 0 ↔ v = .slice none 0 0 /\ m = 0) -> wpListIn F n P ops Q rest (a.put o.dst v') w') :
  wpListIn F n P ops Q (o :: rest) a w := by
 refine wpListIn_plain hg fun K hK' => ?_
 obtain ⟨v', w', hrun, r1, r2, r3, r4⟩ := run_append_own_at (P := P) (w := w) 0 t o.type e i z sz bytes h1 h2 h3 h4 h5 h6 h7 v k xs hrow.1 ad m c news hn hc h1c b1 b2 (Nat.zero_le _)
 unfold Oper.wpIn
 refine ⟨?_, ?_⟩
 ·simp [Oper.about, hop, resolve, Target.leads, Sem.run_pure]
 ·rw [Oper.semAt_plain F _ _ (by rw [hop]; intro c hc'; cases hc')]
  simp [execOp, hop, resolve, invoke, builtin, hs, hx, hrun, Result.andThen]
  refine hK' _ _ (hK v' w' ⟨r1, fun g hg' => ?_⟩ r2 r3)
  rcases r4 with r4 | r4
  ·rw [r4] at hg'; exact hrow.2 g hg'
  ·rw [r4] at hg'; cases hg'; exact hR
end
def RdStrs (v : Value) (l : List (List UInt8)) (W : World) : Prop :=
 (v = .slice none 0 0 /\ l = []) \/ ∃ g off cap, v = .slice (some ⟨g, off, none⟩) l.length cap /\ l.length <= cap /\ cap <= maxLen /\ g < W.heap.size /\ ∀ j (h : j < l.length), W.cell? ⟨g, off + j, none⟩ = some (S l[j])
theorem RdStrs.below {v l} {W W' : World} (h : RdStrs v l W) (hb : Below W.heap.size W W') : RdStrs v l W' := by
 rcases h with h | ⟨g, off, cap, h1, h2, h2', h3, h4⟩
 ·exact .inl h
 ·exact .inr ⟨g, off, cap, h1, h2, h2', by have := hb.size; omega, fun j hj => (hb.cell (p := ⟨g, off + j, none⟩) h3).trans (h4 j hj)⟩
theorem Row.strs {R e v l W} (h : Row R e 1 v l.length (l.map S) W) : RdStrs v l W := by
 obtain ⟨⟨hl, ho⟩, _⟩ := h
 rcases ho with ⟨rfl, h0⟩ | ⟨g, cap, cur, rfl, _, hg, h1, h2, h3, h4⟩
 ·exact .inl ⟨rfl, by simpa using h0⟩
 ·refine .inr ⟨g, 0, cap, rfl, h1, h2, (Array.getElem?_eq_some_iff.1 hg).1, fun j hj => ?_⟩
  rw [Nat.zero_add, cell_of_row W g j _ _ _ hg]
  have := congrArg (fun l => l[j]?) h4
  simp only [List.getElem?_take, List.getElem?_map, Nat.mul_one, hj, if_true, List.getElem?_eq_getElem, Option.map_some] at this
  simpa using this
end Go.Proofs.YtbgbahllhjelgaaGreatDoor
end
end
section
namespace Go.Proofs.YtbgbahllhjelgaaGreatDoor
open Go.RowKit
section
variable {F : Fence} {n : Nat} {P : Program} {ops : Array Oper} {Q : Exit -> Act -> World -> Prop} {oi : Oper} {fuel : Nat} {listed : Array Bool} {a : Act} {w : World} {N : List Nat} {S : World -> Prop}
theorem tH (i : Nat) (v : Value) (hs : S w) (hy : ∀ w, S w -> (execOp a.eval oi).run P w = .ok (.value v) w) (h : wpAnyH F n P ops (NoPan Q) N S fuel (listed.setIfInBounds i true) (a.put oi.dst v) w)
  (hF : ∀ f, F.fn f := by exact fun _ => trivial) (hi : ops.toList[i]? = some oi := by rfl)
  (hst : (noDefer ops && Region.noSelect ops && Region.free .any ops listed i && (Region.ready .any ops listed).contains i && aheadIn ops N listed i) = true := by kernel_rfl)
  (hg : Region.wanted oi (yielded ops a.tmps) = true := by kernel_rfl) : wpAnyH F n P ops (NoPan Q) N S (fuel + 1) listed a w := takeH i hF hi hst hs (.inl ⟨hg, hy⟩) h
theorem tP (i : Nat) (v : Value) (hy : ∀ w, True -> (execOp a.eval oi).run P w = .ok (.value v) w) (h : wpAnyH F n P ops (NoPan Q) N S fuel (listed.setIfInBounds i true) (a.put oi.dst v) w)
  (hF : ∀ f, F.fn f := by exact fun _ => trivial) (hi : ops.toList[i]? = some oi := by rfl)
  (hst : (noDefer ops && Region.noSelect ops && Region.free .any ops listed i && (Region.ready .any ops listed).contains i) = true := by kernel_rfl)
  (hg : Region.wanted oi (yielded ops a.tmps) = true := by kernel_rfl) (hs : N.contains i = false := by decide) : wpAnyH F n P ops (NoPan Q) N S (fuel + 1) listed a w := takeP i hF hi hst (.inl ⟨hg, hy⟩) h hs
theorem tU (i : Nat) (hs : S w) (h : wpAnyH F n P ops (NoPan Q) N S fuel (listed.setIfInBounds i true) (a.put oi.dst undef) w)
  (hF : ∀ f, F.fn f := by exact fun _ => trivial) (hi : ops.toList[i]? = some oi := by rfl)
  (hst : (noDefer ops && Region.noSelect ops && Region.free .any ops listed i && (Region.ready .any ops listed).contains i && aheadIn ops N listed i) = true := by kernel_rfl)
  (hg : Region.wanted oi (yielded ops a.tmps) = false := by kernel_rfl) : wpAnyH F n P ops (NoPan Q) N S (fuel + 1) listed a w := takeH i hF hi hst hs (.inr ⟨hg, rfl⟩) h
theorem tV (i : Nat) (h : wpAnyH F n P ops (NoPan Q) N S fuel (listed.setIfInBounds i true) (a.put oi.dst undef) w)
  (hF : ∀ f, F.fn f := by exact fun _ => trivial) (hi : ops.toList[i]? = some oi := by rfl)
  (hst : (noDefer ops && Region.noSelect ops && Region.free .any ops listed i && (Region.ready .any ops listed).contains i) = true := by kernel_rfl)
  (hg : Region.wanted oi (yielded ops a.tmps) = false := by kernel_rfl) (hs : N.contains i = false := by decide) : wpAnyH F n P ops (NoPan Q) N S (fuel + 1) listed a w := takeP i hF hi hst (.inr ⟨hg, rfl⟩) h hs
end
end Go.Proofs.YtbgbahllhjelgaaGreatDoor
end
