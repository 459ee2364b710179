/- A region that draws its order, inside a round or not: what only reads under a held fact S is taken first; the rest comes up one by one. -/
import Derived.OrdersIn
import Derived.TacticsIn
import Derived.RangeFuncCalls
section
namespace Go.Proofs.YtgmbefolgppmdaaGreatDoor
open Go
set_option maxRecDepth 100000
section
variable {F : Fence} {n : Nat} {P : Program} {ops : Array Oper} {Q : Exit -> Act -> World -> Prop}
def NoPan (Q : Exit -> Act -> World -> Prop) : Exit -> Act -> World -> Prop
 | .panic _, _, _ => False
 | e, a, w => Q e a w
theorem NoPan.imp : ∀ (e : Exit) (a : Act) (w : World), NoPan Q e a w -> Q e a w := fun e a w h => by
 cases e <;> first | exact h | exact (h : False).elim
def noDefer (ops : Array Oper) : Bool := ops.all fun o => match o.op with | .defer _ => false | _ => true
theorem noDefer_spec (h : noDefer ops = true) {j : Nat} {o : Oper} (ho : ops[j]? = some o) (ro : Option Nat) (ρ : Operand -> Value) : o.semAt ro ρ = execOp ρ o := by
 have := Array.all_eq_true_iff_forall_mem.1 h o (Array.mem_of_getElem? ho)
 unfold Oper.semAt
 split
 ·rename_i heq; simp [heq] at this
 ·rfl
def wpAnyH (F : Fence) (n : Nat) (P : Program) (ops : Array Oper) (Q : Exit -> Act -> World -> Prop) (N : List Nat) (S : World -> Prop) : Nat -> Array Bool -> Act -> World -> Prop
 | 0, listed, a, w => Region.ready .any ops listed = [] /\ Q .normal a w
 | fuel + 1, listed, a, w =>
  (Region.ready .any ops listed = [] -> Q .normal a w) /\
  ∀ i ∈ Region.ready .any ops listed, wpOpIn F n P ops Q i (fun a' w' => (i ∈ N -> S w') /\ wpAnyH F n P ops Q N S fuel (listed.setIfInBounds i true) a' w') a w
theorem wpAnyH.out {N : List Nat} {S : World -> Prop} : ∀ (fuel : Nat) (listed : Array Bool) (a : Act) (w : World), wpAnyH F n P ops Q N S fuel listed a w -> wpAnyIn F n P .any ops Q fuel listed a w := by
 intro fuel
 induction fuel with
 | zero => intro listed a w h; exact h
 | succ fuel ih => intro listed a w h; exact ⟨h.1, fun i hi => wpOpIn_mono (fun a' w' h' => ih _ _ _ h'.2) (h.2 i hi)⟩
theorem drawnH {id : Nat} {a : Act} {w : World} (N : List Nat) (S : World -> Prop) (m : Nat) (hsz : ops.size = m) (hm : P.follows .mixedOrders = true)
  (h : ∀ w', w' = w.drew -> wpAnyH F n P ops (NoPan Q) N S m (Array.replicate m false) a w') : (Code.region id ops true).wpIn F n P Q a w :=
 wpIn_mono (wpIn_region_any hm (wpAnyH.out _ _ _ _ (by rw [hsz]; exact h _ rfl))) NoPan.imp
def YieldsS (P : Program) (ops : Array Oper) (S : World -> Prop) (o : Oper) (v : Value) (a : Act) : Prop :=
 (Region.wanted o (yielded ops a.tmps) = true /\ ∀ w, S w -> (execOp a.eval o).run P w = .ok (.value v) w) \/ (Region.wanted o (yielded ops a.tmps) = false /\ v = undef)
theorem YieldsS.wpOpIn (hF : ∀ f, F.fn f) (hnd : noDefer ops = true) {S : World -> Prop} {i : Nat} {o : Oper} {v : Value} {a : Act} (hi : ops[i]? = some o) (hy : YieldsS P ops S o v a)
  {K : Act -> World -> Prop} {w : World} (hs : S w) (h : K (a.put o.dst v) w) : wpOpIn F n P ops Q i K a w := by
 unfold Go.wpOpIn
 simp only [hi]
 rcases hy with ⟨hw, hv⟩ | ⟨hw, rfl⟩
 ·simp only [hw, if_true, Oper.wpIn, noDefer_spec hnd hi, hv w hs, Oper.uponIn]; exact ⟨fun f _ => hF f, h⟩
 ·simp only [hw, Bool.false_eq_true, if_false]; exact ⟨fun f _ => hF f, h⟩
theorem YieldsS.of_same {S : World -> Prop} {o : Oper} {v : Value} {a a' : Act} (hy : YieldsS P ops S o v a) (he : execOp a'.eval o = execOp a.eval o)
  (hw : Region.wanted o (yielded ops a'.tmps) = Region.wanted o (yielded ops a.tmps)) : YieldsS P ops S o v a' := by
 rcases hy with ⟨h1, h2⟩ | ⟨h1, h2⟩
 ·exact .inl ⟨by rw [hw]; exact h1, fun w hs => by rw [he]; exact h2 w hs⟩
 ·exact .inr ⟨by rw [hw]; exact h1, h2⟩
theorem wpOpIn_putS (hF : ∀ f, F.fn f) (hnd : noDefer ops = true) {S : World -> Prop} {j : Nat} {oi oj : Oper} {v : Value} (hj : ops[j]? = some oj) (hap : oi.apart ops oj = true)
  (hsi : ∀ cs b, oi.op ≠ .select cs b) (hsj : ∀ cs b, oj.op ≠ .select cs b)
  {K : Act -> World -> Prop} {a : Act} {w : World} (hy : YieldsS P ops S oi v a) (h : wpOpIn F n P ops (NoPan Q) j K (a.put oi.dst v) w) :
  wpOpIn F n P ops (NoPan Q) j (fun a' w' => YieldsS P ops S oi v a' /\ K (a'.put oi.dst v) w') a w := by
 obtain ⟨h1, h2, h3⟩ := Oper.apart_spec hap
 have keep : ∀ (a : Act), YieldsS P ops S oi v a -> ∀ u, YieldsS P ops S oi v (a.put oj.dst u) := fun a hy u =>
  hy.of_same (execOp_put oi hsi a oj.dst u h3) (wanted_put oi a oj.dst u h3)
 have keepD : ∀ d, YieldsS P ops S oi v { a with defers := d :: a.defers } := fun d => hy.of_same rfl rfl
 have hj' := hj
 unfold wpOpIn at *
 simp only [hj] at h ⊢
 rw [wanted_put oj a oi.dst v h1] at h
 split
 ·rename_i hw
  simp only [hw, if_true] at h
  unfold Oper.wpIn at *
  refine ⟨fun f _ => hF f, ?_⟩
  have h := h.2
  rw [noDefer_spec hnd hj, execOp_put oj hsj a oi.dst v h1] at h
  rw [noDefer_spec hnd hj]
  generalize (execOp a.eval oj).run P w = r at *
  cases r with
  | ok x w' =>
   cases x <;> simp only [Oper.uponIn] at h ⊢
   case value u => exact ⟨keep a hy u, by rw [<- Act.put_comm a v u h2]; exact h⟩
   case skip => exact ⟨keep a hy _, by rw [<- Act.put_comm a v undef h2]; exact h⟩
   case defer d =>
    refine ⟨keep _ (keepD d) _, ?_⟩
    rw [<- Act.put_comm _ v undef h2, <- Act.put_defers]
    exact h
   case enter f args =>
    refine ⟨h.1, CallsIn.mono h.2 fun e w'' he => ?_⟩
    cases e with
    | returned u => exact ⟨keep a hy u, by rw [<- Act.put_comm a v u h2]; exact he⟩
    | panicked c => exact (he : False).elim
    | outgrown => exact he
   case row row args => exact ⟨h.1, RowsIn.mono h.2 fun u w'' he => ⟨keep a hy u, by rw [<- Act.put_comm a v u h2]; exact he⟩⟩
   case round l f tmps assign body =>
    refine ⟨h.1, RoundIn.mono h.2 fun e w'' he => ?_⟩
    cases e with
    | returned u => exact ⟨keep a hy u, by rw [<- Act.put_comm a v u h2]; exact he⟩
    | panicked c => exact (he : False).elim
    | outgrown => exact he
  | halt x w' =>
   cases x <;> simp only [Oper.uponIn] at h ⊢
   case panic u => exact (h : False).elim
 ·rename_i hw
  simp only [hw] at h
  exact ⟨fun f _ => hF f, keep a hy _, by rw [<- Act.put_comm a v undef h2]; exact h.2⟩
def aheadIn (ops : Array Oper) (N : List Nat) (listed : Array Bool) (i : Nat) : Bool :=
 (List.range ops.size).all fun j => j == i || listed.getD j true || N.contains j || match ops[j]? with
  | some oj => oj.after.toList.any (fun e => e.on == i && Region.binds .any e)
  | none => true
theorem aheadIn_spec {N : List Nat} {listed : Array Bool} {i j : Nat} {oj : Oper} (h : aheadIn ops N listed i = true) (hj : ops[j]? = some oj) (hne : j ≠ i) (hun : listed.getD j true = false)
  (hno : ∀ e ∈ oj.after, Region.binds .any e = true -> e.on ≠ i) : j ∈ N := by
 simp only [aheadIn, List.all_eq_true, List.mem_range] at h
 have h1 := h j (Array.getElem?_eq_some_iff.1 hj).1
 simp only [hj, Bool.or_eq_true, beq_iff_eq, hne, false_or, hun, Bool.false_eq_true] at h1
 rcases h1 with h1 | h1
 ·simpa using h1
 ·obtain ⟨e, he, hb⟩ := List.any_eq_true.1 h1
  simp only [Bool.and_eq_true, beq_iff_eq] at hb
  exact absurd hb.1 (hno e (Array.mem_toList_iff.1 he) hb.2)
theorem wpAnyH_first (hF : ∀ f, F.fn f) (hnd : noDefer ops = true) (hsel : Region.noSelect ops = true) {N : List Nat} {S : World -> Prop} {i : Nat} {oi : Oper} {v : Value} (hi : ops[i]? = some oi) :
  ∀ (fuel : Nat) (listed : Array Bool) (a : Act) (w : World),
   (∀ j oj, ops[j]? = some oj -> j ≠ i -> listed.getD j true = false -> (∀ e ∈ oj.after, Region.binds .any e = true -> e.on ≠ i) -> oi.apart ops oj = true /\ j ∈ N) ->
   i ∈ Region.ready .any ops listed -> YieldsS P ops S oi v a -> S w ->
   wpAnyH F n P ops (NoPan Q) N S fuel (listed.setIfInBounds i true) (a.put oi.dst v) w -> wpAnyH F n P ops (NoPan Q) N S (fuel + 1) listed a w := by
 intro fuel
 induction fuel with
 | zero =>
  intro listed a w _ hr hy hs H
  refine ⟨fun h => (by rw [h] at hr; cases hr), fun j hj => ?_⟩
  by_cases hji : j = i
  ·subst hji; exact hy.wpOpIn hF hnd hi hs ⟨fun _ => hs, H⟩
  ·have := ready_mono hj hji
   rw [H.1] at this
   cases this
 | succ fuel ih =>
  intro listed a w hfree hr hy hs H
  refine ⟨fun h => (by rw [h] at hr; cases hr), fun j hj => ?_⟩
  by_cases hji : j = i
  ·subst hji; exact hy.wpOpIn hF hnd hi hs ⟨fun _ => hs, H⟩
  ·have h1 := H.2 j (ready_mono hj hji)
   obtain ⟨hjun, oj, hoj, hall⟩ := mem_ready.1 hj
   have hnot : ∀ e ∈ oj.after, Region.binds .any e = true -> e.on ≠ i := fun e he hb heq => by
    have h1 := hall e he hb
    have h0 := (mem_ready.1 hr).1
    rw [heq] at h1
    rcases Nat.lt_or_ge i listed.size with h' | h'
    ·simp [h'] at h0 h1; rw [h0] at h1; cases h1
    ·simp [Array.getElem?_eq_none h'] at h1
   obtain ⟨hap, hN⟩ := hfree j oj hoj hji hjun hnot
   have h2 := wpOpIn_putS hF hnd hoj hap (fun cs b => Region.noSelect_spec hsel i oi cs b hi) (fun cs b => Region.noSelect_spec hsel j oj cs b hoj) hy h1
   have hfree' : ∀ k ok, ops[k]? = some ok -> k ≠ i -> (listed.setIfInBounds j true).getD k true = false ->
     (∀ e ∈ ok.after, Region.binds .any e = true -> e.on ≠ i) -> oi.apart ops ok = true /\ k ∈ N := fun k ok hk hki hun hno => by
    refine hfree k ok hk hki ?_ hno
    by_cases hjk : j = k
    ·subst hjk; exact hjun
    ·rw [getD_set_ne true hjk] at hun; exact hun
   refine wpOpIn_mono (fun a' w' h3 => ⟨fun _ => h3.2.1 hN, ih (listed.setIfInBounds j true) a' w' hfree' (ready_mono hr (Ne.symm hji)) h3.1 (h3.2.1 hN) ?_⟩) h2
   rw [Array.setIfInBounds_comm _ _ hji]
   exact h3.2.2
theorem wpAnyP_first (hF : ∀ f, F.fn f) (hnd : noDefer ops = true) (hsel : Region.noSelect ops = true) {N : List Nat} {S : World -> Prop} {i : Nat} {oi : Oper} {v : Value} (hi : ops[i]? = some oi) :
  ∀ (fuel : Nat) (listed : Array Bool) (a : Act) (w : World),
   (∀ j oj, ops[j]? = some oj -> j ≠ i -> listed.getD j true = false -> (∀ e ∈ oj.after, Region.binds .any e = true -> e.on ≠ i) -> oi.apart ops oj = true) ->
   i ∈ Region.ready .any ops listed -> YieldsS P ops (fun _ => True) oi v a ->
   wpAnyH F n P ops (NoPan Q) N S fuel (listed.setIfInBounds i true) (a.put oi.dst v) w -> i ∉ N -> wpAnyH F n P ops (NoPan Q) N S (fuel + 1) listed a w := by
 intro fuel
 induction fuel with
 | zero =>
  intro listed a w _ hr hy H hs
  refine ⟨fun h => (by rw [h] at hr; cases hr), fun j hj => ?_⟩
  by_cases hji : j = i
  ·subst hji; exact hy.wpOpIn hF hnd hi trivial ⟨fun hN => absurd hN hs, H⟩
  ·have := ready_mono hj hji
   rw [H.1] at this
   cases this
 | succ fuel ih =>
  intro listed a w hfree hr hy H hs
  refine ⟨fun h => (by rw [h] at hr; cases hr), fun j hj => ?_⟩
  by_cases hji : j = i
  ·subst hji; exact hy.wpOpIn hF hnd hi trivial ⟨fun hN => absurd hN hs, H⟩
  ·have h1 := H.2 j (ready_mono hj hji)
   obtain ⟨hjun, oj, hoj, hall⟩ := mem_ready.1 hj
   have hnot : ∀ e ∈ oj.after, Region.binds .any e = true -> e.on ≠ i := fun e he hb heq => by
    have h1 := hall e he hb
    have h0 := (mem_ready.1 hr).1
    rw [heq] at h1
    rcases Nat.lt_or_ge i listed.size with h' | h'
    ·simp [h'] at h0 h1; rw [h0] at h1; cases h1
    ·simp [Array.getElem?_eq_none h'] at h1
   have hap := hfree j oj hoj hji hjun hnot
   have h2 := wpOpIn_putS hF hnd hoj hap (fun cs b => Region.noSelect_spec hsel i oi cs b hi) (fun cs b => Region.noSelect_spec hsel j oj cs b hoj) hy h1
   have hfree' : ∀ k ok, ops[k]? = some ok -> k ≠ i -> (listed.setIfInBounds j true).getD k true = false ->
     (∀ e ∈ ok.after, Region.binds .any e = true -> e.on ≠ i) -> oi.apart ops ok = true := fun k ok hk hki hun hno => by
    refine hfree k ok hk hki ?_ hno
    by_cases hjk : j = k
    ·subst hjk; exact hjun
    ·rw [getD_set_ne true hjk] at hun; exact hun
   ·refine wpOpIn_mono (fun a' w' h3 => ⟨h3.2.1, ih (listed.setIfInBounds j true) a' w' hfree' (ready_mono hr (Ne.symm hji)) h3.1 ?_ ?_⟩) h2
    ·rw [Array.setIfInBounds_comm _ _ hji]
     exact h3.2.2
    ·exact fun hN => absurd hN hs
theorem takeP (i : Nat) {oi : Oper} {v : Value} {fuel : Nat} {listed : Array Bool} {a : Act} {w : World} {N : List Nat} {S : World -> Prop} (hF : ∀ f, F.fn f) (hi : ops.toList[i]? = some oi)
  (hst : (noDefer ops && Region.noSelect ops && Region.free .any ops listed i && (Region.ready .any ops listed).contains i) = true)
  (hy : YieldsS P ops (fun _ => True) oi v a)
  (h : wpAnyH F n P ops (NoPan Q) N S fuel (listed.setIfInBounds i true) (a.put oi.dst v) w) (hs : N.contains i = false := by decide) : wpAnyH F n P ops (NoPan Q) N S (fuel + 1) listed a w := by
 simp only [Bool.and_eq_true] at hst
 obtain ⟨⟨⟨h1, h2⟩, h3⟩, h4⟩ := hst
 have hi' : ops[i]? = some oi := by rw [<- Array.getElem?_toList]; exact hi
 exact wpAnyP_first hF h1 h2 hi' fuel listed a w (fun j oj hj hne hun hno => Region.free_spec hi' h3 j oj hj hne hun hno) (by simpa using h4) hy h (by simpa using hs)
theorem takeH (i : Nat) {oi : Oper} {v : Value} {fuel : Nat} {listed : Array Bool} {a : Act} {w : World} {N : List Nat} {S : World -> Prop} (hF : ∀ f, F.fn f) (hi : ops.toList[i]? = some oi)
  (hst : (noDefer ops && Region.noSelect ops && Region.free .any ops listed i && (Region.ready .any ops listed).contains i && aheadIn ops N listed i) = true)
  (hs : S w) (hy : YieldsS P ops S oi v a)
  (h : wpAnyH F n P ops (NoPan Q) N S fuel (listed.setIfInBounds i true) (a.put oi.dst v) w) : wpAnyH F n P ops (NoPan Q) N S (fuel + 1) listed a w := by
 simp only [Bool.and_eq_true] at hst
 obtain ⟨⟨⟨⟨h1, h2⟩, h3⟩, h4⟩, h5⟩ := hst
 replace hi : ops[i]? = some oi := by rw [<- Array.getElem?_toList]; exact hi
 exact wpAnyH_first hF h1 h2 hi fuel listed a w (fun j oj hj hne hun hno => ⟨Region.free_spec hi h3 j oj hj hne hun hno, aheadIn_spec h5 hj hne hun hno⟩) (by simpa using h4) hy hs h
theorem letsOut_then {K : Act -> World -> Prop} {Q : Exit -> Act -> World -> Prop} (h : LetsOut (Exit.then K Q)) : LetsOut Q := by
 obtain ⟨a, w, h⟩ := h; exact ⟨a, w, h⟩
theorem oneH (i : Nat) {oi : Oper} {fuel : Nat} {listed : Array Bool} {a : Act} {w : World} {N : List Nat} {S : World -> Prop} (hi : ops.toList[i]? = some oi)
  (hr : Region.ready .any ops listed = [i])
  (h : ∀ K : Act -> World -> Prop, (∀ a' w', (i ∈ N -> S w') -> wpAnyH F n P ops (NoPan Q) N S fuel (listed.setIfInBounds i true) a' w' -> K a' w') ->
   wpListIn F n P ops (Exit.then K (NoPan Q)) [oi] a w) : wpAnyH F n P ops (NoPan Q) N S (fuel + 1) listed a w := by
 replace hi : ops[i]? = some oi := by rw [<- Array.getElem?_toList]; exact hi
 refine ⟨fun h0 => (by rw [hr] at h0; cases h0), fun j hj => ?_⟩
 rw [hr, List.mem_singleton] at hj
 subst hj
 have := h _ (fun a' w' h1 h2 => (⟨h1, h2⟩ : (j ∈ N -> S w') /\ wpAnyH F n P ops (NoPan Q) N S fuel (listed.setIfInBounds j true) a' w'))
 unfold wpOpIn
 simp only [wpListIn] at this
 simp only [hi]
 by_cases hw : Region.wanted oi (yielded ops a.tmps) = true
 ·rw [if_pos hw] at this ⊢
  refine ⟨this.1, ?_⟩
  have h2 := this.2
  generalize (oi.semAt F.round a.eval).run P w = r at *
  cases r with
  | ok x w' =>
   cases x <;> simp only [Oper.uponIn] at h2 ⊢
   case value u => exact h2
   case skip => exact h2
   case defer d => exact h2
   case enter f args =>
    refine ⟨h2.1, CallsIn.mono h2.2 fun e w'' he => ?_⟩
    cases e with
    | returned u => exact he
    | panicked c => exact he
    | outgrown => exact letsOut_then he
   case row row args => exact ⟨h2.1, RowsIn.mono h2.2 fun u w'' he => he⟩
   case round l f tmps assign body =>
    refine ⟨h2.1, RoundIn.mono h2.2 fun e w'' he => ?_⟩
    cases e with
    | returned u => exact he
    | panicked c => exact he
    | outgrown => exact letsOut_then he
  | halt x w' => cases x <;> simp only [Oper.uponIn] at h2 ⊢ <;> exact h2
 ·rw [if_neg hw] at this ⊢
  exact this
theorem doneH {fuel : Nat} {listed : Array Bool} {a : Act} {w : World} {N : List Nat} {S : World -> Prop} (hr : Region.ready .any ops listed = []) (h : Q .normal a w) :
  wpAnyH F n P ops (NoPan Q) N S fuel listed a w := by
 cases fuel with
 | zero => exact ⟨hr, h⟩
 | succ fuel => exact ⟨fun _ => h, fun i hi => by rw [hr] at hi; cases hi⟩
end
end Go.Proofs.YtgmbefolgppmdaaGreatDoor
end
section
namespace Go.Proofs.YtgmbefolgppmdaaGreatDoor
open Go.RowKit
section
variable {F : Fence} {n : Nat} {P : Program} {ops : Array Oper} {Q : Exit -> Act -> World -> Prop} {oi : Oper} {fuel : Nat} {listed : Array Bool} {a : Act} {w : World} {N : List Nat} {S : World -> Prop}
theorem tH (i : Nat) (v : Value) (hs : S w) (hy : ∀ w, S w -> (execOp a.eval oi).run P w = .ok (.value v) w) (h : wpAnyH F n P ops (NoPan Q) N S fuel (listed.setIfInBounds i true) (a.put oi.dst v) w)
  (hF : ∀ f, F.fn f := by exact fun _ => trivial) (hi : ops.toList[i]? = some oi := by rfl)
  (hst : (noDefer ops && Region.noSelect ops && Region.free .any ops listed i && (Region.ready .any ops listed).contains i && aheadIn ops N listed i) = true := by kernel_rfl)
  (hg : Region.wanted oi (yielded ops a.tmps) = true := by kernel_rfl) : wpAnyH F n P ops (NoPan Q) N S (fuel + 1) listed a w := takeH i hF hi hst hs (.inl ⟨hg, hy⟩) h
theorem tP (i : Nat) (v : Value) (hy : ∀ w, True -> (execOp a.eval oi).run P w = .ok (.value v) w) (h : wpAnyH F n P ops (NoPan Q) N S fuel (listed.setIfInBounds i true) (a.put oi.dst v) w)
  (hF : ∀ f, F.fn f := by exact fun _ => trivial) (hi : ops.toList[i]? = some oi := by rfl)
  (hst : (noDefer ops && Region.noSelect ops && Region.free .any ops listed i && (Region.ready .any ops listed).contains i) = true := by kernel_rfl)
  (hg : Region.wanted oi (yielded ops a.tmps) = true := by kernel_rfl) (hs : N.contains i = false := by decide) : wpAnyH F n P ops (NoPan Q) N S (fuel + 1) listed a w := takeP i hF hi hst (.inl ⟨hg, hy⟩) h hs
theorem tU (i : Nat) (hs : S w) (h : wpAnyH F n P ops (NoPan Q) N S fuel (listed.setIfInBounds i true) (a.put oi.dst undef) w)
  (hF : ∀ f, F.fn f := by exact fun _ => trivial) (hi : ops.toList[i]? = some oi := by rfl)
  (hst : (noDefer ops && Region.noSelect ops && Region.free .any ops listed i && (Region.ready .any ops listed).contains i && aheadIn ops N listed i) = true := by kernel_rfl)
  (hg : Region.wanted oi (yielded ops a.tmps) = false := by kernel_rfl) : wpAnyH F n P ops (NoPan Q) N S (fuel + 1) listed a w := takeH i hF hi hst hs (.inr ⟨hg, rfl⟩) h
theorem tV (i : Nat) (h : wpAnyH F n P ops (NoPan Q) N S fuel (listed.setIfInBounds i true) (a.put oi.dst undef) w)
  (hF : ∀ f, F.fn f := by exact fun _ => trivial) (hi : ops.toList[i]? = some oi := by rfl)
  (hst : (noDefer ops && Region.noSelect ops && Region.free .any ops listed i && (Region.ready .any ops listed).contains i) = true := by kernel_rfl)
  (hg : Region.wanted oi (yielded ops a.tmps) = false := by kernel_rfl) (hs : N.contains i = false := by decide) : wpAnyH F n P ops (NoPan Q) N S (fuel + 1) listed a w := takeP i hF hi hst (.inr ⟨hg, rfl⟩) h hs
end
end Go.Proofs.YtgmbefolgppmdaaGreatDoor
end
