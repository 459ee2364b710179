/- A region that draws its order, inside a round or not: what only reads under a held fact S is taken first; the rest comes up one by one. -/
import Derived.OrdersIn
import Derived.TacticsIn
import Derived.RangeFuncCalls
import Derived.Test.YtgmbefolgppmdaaGreatLAli
import Derived.Shelf.Small.Strs
import Derived.Shelf.Small.Wraps
import Derived.Test.YtgmbefolgppmdaaGreatProg
import Derived.RangeFuncNested
import Derived.RangeFuncBound
import Derived.RangeFuncLeaves
import Derived.WalkKit
import Derived.WalkSpells
import Derived.WalkLawsBesides
import Derived.OwnWalkIn
import Derived.TacticsInMore
import Derived.LoopNIn
import Derived.LoopIn
import Derived.Lib.Hide
import Derived.Lib.FrozenHead2
import Derived.Lib.OthersKept
import Derived.Maps.AppendAt
section
namespace Go.Proofs.YtgmbefolgppmdaaGreat
open Go
set_option maxRecDepth 100000
section
variable {F:Fence} {n:Nat} {P:Program} {ops:Array Oper} {Q:Exit->Act->World->Prop}
def NoPan (Q:Exit->Act->World->Prop):Exit->Act->World->Prop
 | .panic _,_,_=>False
 | e,a,w=>Q e a w
theorem NoPan.imp:∀(e:Exit) (a:Act) (w:World),NoPan Q e a w->Q e a w:=fun e a w h=>by
 cases e<;>first|exact h|exact (h:False).elim
def noDefer (ops:Array Oper):Bool:=ops.all fun o=>match o.op with|.defer _=>false|_=>true
theorem noDefer_spec (h:noDefer ops=true) {j:Nat} {o:Oper} (ho:ops[j]? = some o) (ro:Option Nat) (ρ:Operand->Value):o.semAt ro ρ=execOp ρ o:=by
 have:=Array.all_eq_true_iff_forall_mem.1 h o (Array.mem_of_getElem? ho)
 unfold Oper.semAt;split
 ·rename_i heq;simp[heq] at this
 ·rfl
def wpAnyH (F:Fence) (n:Nat) (P:Program) (ops:Array Oper) (Q:Exit->Act->World->Prop) (N:List Nat) (S:World->Prop):Nat->Array Bool->Act->World->Prop
 | 0,listed,a,w=>Region.ready .any ops listed=[]/\Q .normal a w
 | fuel+1,listed,a,w =>
  (Region.ready .any ops listed=[]->Q .normal a w) /\
  ∀i∈Region.ready .any ops listed,wpOpIn F n P ops Q i (fun a' w'=>(i∈N->S w')/\wpAnyH F n P ops Q N S fuel (listed.setIfInBounds i true) a' w') a w
theorem wpAnyH.out {N:List Nat} {S:World->Prop}:∀(fuel:Nat) (listed:Array Bool) (a:Act) (w:World),wpAnyH F n P ops Q N S fuel listed a w->wpAnyIn F n P .any ops Q fuel listed a w:=by
 intro fuel
 induction fuel with
 | zero=>intro listed a w h;exact h
 | succ fuel ih=>intro listed a w h;exact⟨h.1,fun i hi=>wpOpIn_mono (fun a' w' h'=>ih _ _ _ h'.2) (h.2 i hi)⟩
theorem Z8 {id:Nat} {a:Act} {w:World} (N:List Nat) (S:World->Prop) (m:Nat) (hsz:ops.size=m) (hm:P.follows .mixedOrders=true)
  (h:∀w',w'=w.drew->wpAnyH F n P ops (NoPan Q) N S m (Array.replicate m false) a w'):(Code.region id ops true).wpIn F n P Q a w :=
 wpIn_mono (wpIn_region_any hm (wpAnyH.out _ _ _ _ (by rw[hsz];exact h _ rfl))) NoPan.imp
def YieldsS (P:Program) (ops:Array Oper) (S:World->Prop) (o:Oper) (v:Value) (a:Act):Prop :=
 (Region.wanted o (yielded ops a.tmps)=true/\∀w,S w->(execOp a.eval o).run P w=.ok (.value v) w)\/(Region.wanted o (yielded ops a.tmps)=false/\v=undef)
theorem YieldsS.wpOpIn (hF:∀f,F.fn f) (hnd:noDefer ops=true) {S:World->Prop} {i:Nat} {o:Oper} {v:Value} {a:Act} (hi:ops[i]? = some o) (hy:YieldsS P ops S o v a)
  {K:Act->World->Prop} {w:World} (hs:S w) (h:K (a.put o.dst v) w):wpOpIn F n P ops Q i K a w:=by
 unfold Go.wpOpIn;simp only[hi];rcases hy with⟨hw,hv⟩|⟨hw,rfl⟩
 ·simp only[hw,if_true,Oper.wpIn,noDefer_spec hnd hi,hv w hs,Oper.uponIn];exact⟨fun f _=>hF f,h⟩
 ·simp only[hw,Bool.false_eq_true,if_false];exact⟨fun f _=>hF f,h⟩
theorem YieldsS.of_same {S:World->Prop} {o:Oper} {v:Value} {a a':Act} (hy:YieldsS P ops S o v a) (he:execOp a'.eval o=execOp a.eval o)
  (hw:Region.wanted o (yielded ops a'.tmps)=Region.wanted o (yielded ops a.tmps)):YieldsS P ops S o v a':=by
 rcases hy with⟨h1,h2⟩|⟨h1,h2⟩
 ·exact .inl ⟨by rw[hw];exact h1,fun w hs=>by rw[he];exact h2 w hs⟩
 ·exact .inr ⟨by rw[hw];exact h1,h2⟩
theorem wpOpIn_putS (hF:∀f,F.fn f) (hnd:noDefer ops=true) {S:World->Prop} {j:Nat} {oi oj:Oper} {v:Value} (hj:ops[j]? = some oj) (hap:oi.apart ops oj=true)
  (hsi:∀cs b,oi.op≠.select cs b) (hsj:∀cs b,oj.op≠.select cs b)
  {K:Act->World->Prop} {a:Act} {w:World} (hy:YieldsS P ops S oi v a) (h:wpOpIn F n P ops (NoPan Q) j K (a.put oi.dst v) w) :
  wpOpIn F n P ops (NoPan Q) j (fun a' w'=>YieldsS P ops S oi v a'/\K (a'.put oi.dst v) w') a w:=by
 obtain⟨h1,h2,h3⟩:=Oper.apart_spec hap;have keep:∀(a:Act),YieldsS P ops S oi v a->∀u,YieldsS P ops S oi v (a.put oj.dst u):=fun a hy u =>
  hy.of_same (execOp_put oi hsi a oj.dst u h3) (wanted_put oi a oj.dst u h3)
 have keepD:∀d,YieldsS P ops S oi v { a with defers:=d::a.defers }:=fun d=>hy.of_same rfl rfl
 have hj':=hj;unfold wpOpIn at *;simp only[hj] at h ⊢;rw[wanted_put oj a oi.dst v h1] at h;split
 ·rename_i hw
  simp only[hw,if_true] at h;unfold Oper.wpIn at *;refine⟨fun f _=>hF f,?_⟩
  have h:=h.2;rw[noDefer_spec hnd hj,execOp_put oj hsj a oi.dst v h1] at h;rw[noDefer_spec hnd hj];generalize (execOp a.eval oj).run P w=r at *
  cases r with
  | ok x w' =>
   cases x<;>simp only[Oper.uponIn] at h ⊢
   case value u=>exact⟨keep a hy u,by rw[<-Act.put_comm a v u h2];exact h⟩
   case skip=>exact⟨keep a hy _,by rw[<-Act.put_comm a v undef h2];exact h⟩
   case defer d =>
    refine⟨keep _ (keepD d) _,?_⟩;rw[<-Act.put_comm _ v undef h2,<-Act.put_defers];exact h
   case enter f args =>
    refine⟨h.1,CallsIn.mono h.2 fun e w'' he=>?_⟩
    cases e with
    | returned u=>exact⟨keep a hy u,by rw[<-Act.put_comm a v u h2];exact he⟩
    | panicked c=>exact (he:False).elim
    | outgrown=>exact he
   case row row args=>exact⟨h.1,RowsIn.mono h.2 fun u w'' he=>⟨keep a hy u,by rw[<-Act.put_comm a v u h2];exact he⟩⟩
   case round l f tmps assign body =>
    refine⟨h.1,RoundIn.mono h.2 fun e w'' he=>?_⟩
    cases e with
    | returned u=>exact⟨keep a hy u,by rw[<-Act.put_comm a v u h2];exact he⟩
    | panicked c=>exact (he:False).elim
    | outgrown=>exact he
  | halt x w' =>
   cases x<;>simp only[Oper.uponIn] at h ⊢
   case panic u=>exact (h:False).elim
 ·rename_i hw
  simp only[hw] at h;exact⟨fun f _=>hF f,keep a hy _,by rw[<-Act.put_comm a v undef h2];exact h.2⟩
def aheadIn (ops:Array Oper) (N:List Nat) (listed:Array Bool) (i:Nat):Bool :=
 (List.range ops.size).all fun j=>j == i || listed.getD j true || N.contains j || match ops[j]? with
  | some oj=>oj.after.toList.any (fun e=>e.on == i&&Region.binds .any e)
  | none=>true
theorem aheadIn_spec {N:List Nat} {listed:Array Bool} {i j:Nat} {oj:Oper} (h:aheadIn ops N listed i=true) (hj:ops[j]? = some oj) (hne:j≠i) (hun:listed.getD j true=false)
  (hno:∀e∈oj.after,Region.binds .any e=true->e.on≠i):j∈N:=by
 simp only[aheadIn,List.all_eq_true,List.mem_range] at h;have h1:=h j (Array.getElem?_eq_some_iff.1 hj).1;simp only[hj,Bool.or_eq_true,beq_iff_eq,hne,false_or,hun,Bool.false_eq_true] at h1;rcases h1 with h1|h1
 ·simpa using h1
 ·obtain⟨e,he,hb⟩:=List.any_eq_true.1 h1
  simp only[Bool.and_eq_true,beq_iff_eq] at hb;exact absurd hb.1 (hno e (Array.mem_toList_iff.1 he) hb.2)
theorem wpAnyH_first (hF:∀f,F.fn f) (hnd:noDefer ops=true) (hsel:Region.noSelect ops=true) {N:List Nat} {S:World->Prop} {i:Nat} {oi:Oper} {v:Value} (hi:ops[i]? = some oi) :
  ∀(fuel:Nat) (listed:Array Bool) (a:Act) (w:World),
   (∀j oj,ops[j]? = some oj->j≠i->listed.getD j true=false->(∀e∈oj.after,Region.binds .any e=true->e.on≠i)->oi.apart ops oj=true/\j∈N) ->
   i∈Region.ready .any ops listed->YieldsS P ops S oi v a->S w ->
   wpAnyH F n P ops (NoPan Q) N S fuel (listed.setIfInBounds i true) (a.put oi.dst v) w->wpAnyH F n P ops (NoPan Q) N S (fuel+1) listed a w:=by
 intro fuel
 induction fuel with
 | zero =>
  intro listed a w _ hr hy hs H;refine⟨fun h=>(by rw[h] at hr;cases hr),fun j hj=>?_⟩
  by_cases hji:j=i
  ·subst hji;exact hy.wpOpIn hF hnd hi hs ⟨fun _=>hs,H⟩
  ·have:=ready_mono hj hji
   rw[H.1] at this;cases this
 | succ fuel ih =>
  intro listed a w hfree hr hy hs H;refine⟨fun h=>(by rw[h] at hr;cases hr),fun j hj=>?_⟩
  by_cases hji:j=i
  ·subst hji;exact hy.wpOpIn hF hnd hi hs ⟨fun _=>hs,H⟩
  ·have h1:=H.2 j (ready_mono hj hji)
   obtain⟨hjun,oj,hoj,hall⟩:=mem_ready.1 hj;have hnot:∀e∈oj.after,Region.binds .any e=true->e.on≠i:=fun e he hb heq=>by
    have h1:=hall e he hb;have h0:=(mem_ready.1 hr).1;rw[heq] at h1;rcases Nat.lt_or_ge i listed.size with h'|h'
    ·simp[h'] at h0 h1;rw[h0] at h1;cases h1
    ·simp[Array.getElem?_eq_none h'] at h1
   obtain⟨hap,hN⟩:=hfree j oj hoj hji hjun hnot;have h2:=wpOpIn_putS hF hnd hoj hap (fun cs b=>Region.noSelect_spec hsel i oi cs b hi) (fun cs b=>Region.noSelect_spec hsel j oj cs b hoj) hy h1
   have hfree':∀k ok,ops[k]? = some ok->k≠i->(listed.setIfInBounds j true).getD k true=false ->
     (∀e∈ok.after,Region.binds .any e=true->e.on≠i)->oi.apart ops ok=true/\k∈N:=fun k ok hk hki hun hno=>by
    refine hfree k ok hk hki ?_ hno;by_cases hjk:j=k
    ·subst hjk;exact hjun
    ·rw[getD_set_ne true hjk] at hun;exact hun
   refine wpOpIn_mono (fun a' w' h3=>⟨fun _=>h3.2.1 hN,ih (listed.setIfInBounds j true) a' w' hfree' (ready_mono hr (Ne.symm hji)) h3.1 (h3.2.1 hN) ?_⟩) h2
   rw[Array.setIfInBounds_comm _ _ hji];exact h3.2.2
theorem wpAnyP_first (hF:∀f,F.fn f) (hnd:noDefer ops=true) (hsel:Region.noSelect ops=true) {N:List Nat} {S:World->Prop} {i:Nat} {oi:Oper} {v:Value} (hi:ops[i]? = some oi) :
  ∀(fuel:Nat) (listed:Array Bool) (a:Act) (w:World),
   (∀j oj,ops[j]? = some oj->j≠i->listed.getD j true=false->(∀e∈oj.after,Region.binds .any e=true->e.on≠i)->oi.apart ops oj=true) ->
   i∈Region.ready .any ops listed->YieldsS P ops (fun _=>True) oi v a ->
   wpAnyH F n P ops (NoPan Q) N S fuel (listed.setIfInBounds i true) (a.put oi.dst v) w->i ∉ N->wpAnyH F n P ops (NoPan Q) N S (fuel+1) listed a w:=by
 intro fuel
 induction fuel with
 | zero =>
  intro listed a w _ hr hy H hs;refine⟨fun h=>(by rw[h] at hr;cases hr),fun j hj=>?_⟩
  by_cases hji:j=i
  ·subst hji;exact hy.wpOpIn hF hnd hi trivial ⟨fun hN=>absurd hN hs,H⟩
  ·have:=ready_mono hj hji
   rw[H.1] at this;cases this
 | succ fuel ih =>
  intro listed a w hfree hr hy H hs;refine⟨fun h=>(by rw[h] at hr;cases hr),fun j hj=>?_⟩
  by_cases hji:j=i
  ·subst hji;exact hy.wpOpIn hF hnd hi trivial ⟨fun hN=>absurd hN hs,H⟩
  ·have h1:=H.2 j (ready_mono hj hji)
   obtain⟨hjun,oj,hoj,hall⟩:=mem_ready.1 hj;have hnot:∀e∈oj.after,Region.binds .any e=true->e.on≠i:=fun e he hb heq=>by
    have h1:=hall e he hb;have h0:=(mem_ready.1 hr).1;rw[heq] at h1;rcases Nat.lt_or_ge i listed.size with h'|h'
    ·simp[h'] at h0 h1;rw[h0] at h1;cases h1
    ·simp[Array.getElem?_eq_none h'] at h1
   have hap:=hfree j oj hoj hji hjun hnot;have h2:=wpOpIn_putS hF hnd hoj hap (fun cs b=>Region.noSelect_spec hsel i oi cs b hi) (fun cs b=>Region.noSelect_spec hsel j oj cs b hoj) hy h1
   have hfree':∀k ok,ops[k]? = some ok->k≠i->(listed.setIfInBounds j true).getD k true=false ->
     (∀e∈ok.after,Region.binds .any e=true->e.on≠i)->oi.apart ops ok=true:=fun k ok hk hki hun hno=>by
    refine hfree k ok hk hki ?_ hno;by_cases hjk:j=k
    ·subst hjk;exact hjun
    ·rw[getD_set_ne true hjk] at hun;exact hun
   ·refine wpOpIn_mono (fun a' w' h3=>⟨h3.2.1,ih (listed.setIfInBounds j true) a' w' hfree' (ready_mono hr (Ne.symm hji)) h3.1 ?_ ?_⟩) h2
    ·rw[Array.setIfInBounds_comm _ _ hji]
     exact h3.2.2
    ·exact fun hN=>absurd hN hs
theorem takeP (i:Nat) {oi:Oper} {v:Value} {fuel:Nat} {listed:Array Bool} {a:Act} {w:World} {N:List Nat} {S:World->Prop} (hF:∀f,F.fn f) (hi:ops.toList[i]? = some oi)
  (hst:(noDefer ops&&Region.noSelect ops&&Region.free .any ops listed i&&(Region.ready .any ops listed).contains i)=true)
  (hy:YieldsS P ops (fun _=>True) oi v a)
  (h:wpAnyH F n P ops (NoPan Q) N S fuel (listed.setIfInBounds i true) (a.put oi.dst v) w) (hs:N.contains i=false:=by decide):wpAnyH F n P ops (NoPan Q) N S (fuel+1) listed a w:=by
 simp only[Bool.and_eq_true] at hst;obtain⟨⟨⟨h1,h2⟩,h3⟩,h4⟩:=hst;have hi':ops[i]? = some oi:=by rw[<-Array.getElem?_toList];exact hi
 exact wpAnyP_first hF h1 h2 hi' fuel listed a w (fun j oj hj hne hun hno=>Region.free_spec hi' h3 j oj hj hne hun hno) (by simpa using h4) hy h (by simpa using hs)
theorem takeH (i:Nat) {oi:Oper} {v:Value} {fuel:Nat} {listed:Array Bool} {a:Act} {w:World} {N:List Nat} {S:World->Prop} (hF:∀f,F.fn f) (hi:ops.toList[i]? = some oi)
  (hst:(noDefer ops&&Region.noSelect ops&&Region.free .any ops listed i&&(Region.ready .any ops listed).contains i&&aheadIn ops N listed i)=true)
  (hs:S w) (hy:YieldsS P ops S oi v a)
  (h:wpAnyH F n P ops (NoPan Q) N S fuel (listed.setIfInBounds i true) (a.put oi.dst v) w):wpAnyH F n P ops (NoPan Q) N S (fuel+1) listed a w:=by
 simp only[Bool.and_eq_true] at hst;obtain⟨⟨⟨⟨h1,h2⟩,h3⟩,h4⟩,h5⟩:=hst;replace hi:ops[i]? = some oi:=by rw[<-Array.getElem?_toList];exact hi
 exact wpAnyH_first hF h1 h2 hi fuel listed a w (fun j oj hj hne hun hno=>⟨Region.free_spec hi h3 j oj hj hne hun hno,aheadIn_spec h5 hj hne hun hno⟩) (by simpa using h4) hy hs h
theorem letsOut_then {K:Act->World->Prop} {Q:Exit->Act->World->Prop} (h:LetsOut (Exit.then K Q)):LetsOut Q:=by
 obtain⟨a,w,h⟩:=h;exact⟨a,w,h⟩
theorem oneH (i:Nat) {oi:Oper} {fuel:Nat} {listed:Array Bool} {a:Act} {w:World} {N:List Nat} {S:World->Prop} (hi:ops.toList[i]? = some oi)
  (hr:Region.ready .any ops listed=[i])
  (h:∀K:Act->World->Prop,(∀a' w',(i∈N->S w')->wpAnyH F n P ops (NoPan Q) N S fuel (listed.setIfInBounds i true) a' w'->K a' w') ->
   wpListIn F n P ops (Exit.then K (NoPan Q)) [oi] a w):wpAnyH F n P ops (NoPan Q) N S (fuel+1) listed a w:=by
 replace hi:ops[i]? = some oi:=by rw[<-Array.getElem?_toList];exact hi
 refine⟨fun h0=>(by rw[hr] at h0;cases h0),fun j hj=>?_⟩
 rw[hr,List.mem_singleton] at hj;subst hj;have:=h _ (fun a' w' h1 h2=>(⟨h1,h2⟩:(j∈N->S w')/\wpAnyH F n P ops (NoPan Q) N S fuel (listed.setIfInBounds j true) a' w'))
 unfold wpOpIn;simp only[wpListIn] at this;simp only[hi];by_cases hw:Region.wanted oi (yielded ops a.tmps)=true
 ·rw[if_pos hw] at this ⊢
  refine⟨this.1,?_⟩;have h2:=this.2;generalize (oi.semAt F.round a.eval).run P w=r at *
  cases r with
  | ok x w' =>
   cases x<;>simp only[Oper.uponIn] at h2 ⊢
   case value u=>exact h2
   case skip=>exact h2
   case defer d=>exact h2
   case enter f args =>
    refine⟨h2.1,CallsIn.mono h2.2 fun e w'' he=>?_⟩
    cases e with
    | returned u=>exact he
    | panicked c=>exact he
    | outgrown=>exact letsOut_then he
   case row row args=>exact⟨h2.1,RowsIn.mono h2.2 fun u w'' he=>he⟩
   case round l f tmps assign body =>
    refine⟨h2.1,RoundIn.mono h2.2 fun e w'' he=>?_⟩
    cases e with
    | returned u=>exact he
    | panicked c=>exact he
    | outgrown=>exact letsOut_then he
  | halt x w'=>cases x<;>simp only[Oper.uponIn] at h2 ⊢<;>exact h2
 ·rw[if_neg hw] at this ⊢
  exact this
theorem Z9 {fuel:Nat} {listed:Array Bool} {a:Act} {w:World} {N:List Nat} {S:World->Prop} (hr:Region.ready .any ops listed=[]) (h:Q .normal a w) :
  wpAnyH F n P ops (NoPan Q) N S fuel listed a w:=by
 cases fuel with
 | zero=>exact⟨hr,h⟩
 | succ fuel=>exact⟨fun _=>h,fun i hi=>by rw[hr] at hi;cases hi⟩
end
end Go.Proofs.YtgmbefolgppmdaaGreat
end
section
namespace Go.Proofs.YtgmbefolgppmdaaGreat
open Go.RowKit
section
variable {F:Fence} {n:Nat} {P:Program} {ops:Array Oper} {Q:Exit->Act->World->Prop} {oi:Oper} {fuel:Nat} {listed:Array Bool} {a:Act} {w:World} {N:List Nat} {S:World->Prop}
theorem tH (i:Nat) (v:Value) (hs:S w) (hy:∀w,S w->(execOp a.eval oi).run P w=.ok (.value v) w) (h:wpAnyH F n P ops (NoPan Q) N S fuel (listed.setIfInBounds i true) (a.put oi.dst v) w)
  (hF:∀f,F.fn f:=by exact fun _=>trivial) (hi:ops.toList[i]? = some oi:=by rfl)
  (hst:(noDefer ops&&Region.noSelect ops&&Region.free .any ops listed i&&(Region.ready .any ops listed).contains i&&aheadIn ops N listed i)=true:=by kernel_rfl)
  (hg:Region.wanted oi (yielded ops a.tmps)=true:=by kernel_rfl):wpAnyH F n P ops (NoPan Q) N S (fuel+1) listed a w:=takeH i hF hi hst hs (.inl ⟨hg,hy⟩) h
theorem tA (i:Nat) {v:Value} (hs:S w) (h:wpAnyH F n P ops (NoPan Q) N S fuel (listed.setIfInBounds i true) (a.put oi.dst v) w)
  (hi:ops.toList[i]? = some oi:=by rfl) (hy:∀w,S w->(execOp a.eval oi).run P w=.ok (.value v) w:=by intro w HC;(repeat (obtain⟨_,HC⟩:=HC));go_simp;try rfl) (hF:∀f,F.fn f:=by exact fun _=>trivial)
  (hst:(noDefer ops&&Region.noSelect ops&&Region.free .any ops listed i&&(Region.ready .any ops listed).contains i&&aheadIn ops N listed i)=true:=by kernel_rfl)
  (hg:Region.wanted oi (yielded ops a.tmps)=true:=by kernel_rfl):wpAnyH F n P ops (NoPan Q) N S (fuel+1) listed a w:=takeH i hF hi hst hs (.inl ⟨hg,hy⟩) h
theorem tB (i:Nat) {v:Value} (h:wpAnyH F n P ops (NoPan Q) N S fuel (listed.setIfInBounds i true) (a.put oi.dst v) w)
  (hi:ops.toList[i]? = some oi:=by rfl) (hy:∀w,True->(execOp a.eval oi).run P w=.ok (.value v) w:=by intro w _;go_simp;try rfl) (hF:∀f,F.fn f:=by exact fun _=>trivial)
  (hst:(noDefer ops&&Region.noSelect ops&&Region.free .any ops listed i&&(Region.ready .any ops listed).contains i)=true:=by kernel_rfl)
  (hg:Region.wanted oi (yielded ops a.tmps)=true:=by kernel_rfl) (hs:N.contains i=false:=by decide):wpAnyH F n P ops (NoPan Q) N S (fuel+1) listed a w:=takeP i hF hi hst (.inl ⟨hg,hy⟩) h hs
theorem tC (i:Nat) {v:Value} (hs:S w) (h:wpAnyH F n P ops (NoPan Q) N S fuel (listed.setIfInBounds i true) (a.put oi.dst v) w)
  (hi:ops.toList[i]? = some oi:=by rfl) (hy:∀w,S w->(execOp a.eval oi).run P w=.ok (.value v) w:=by intro w HC;(repeat (obtain⟨_,HC⟩:=HC));(go_simp;try first|rfl|(rw[if_pos (by omega)])|(rw[if_neg (by omega)])|(rw[if_neg (by simp;omega)])|(split<;>first|(exfalso;omega)|rfl))) (hF:∀f,F.fn f:=by exact fun _=>trivial)
  (hst:(noDefer ops&&Region.noSelect ops&&Region.free .any ops listed i&&(Region.ready .any ops listed).contains i&&aheadIn ops N listed i)=true:=by kernel_rfl)
  (hg:Region.wanted oi (yielded ops a.tmps)=true:=by kernel_rfl):wpAnyH F n P ops (NoPan Q) N S (fuel+1) listed a w:=takeH i hF hi hst hs (.inl ⟨hg,hy⟩) h
theorem tD (i:Nat) {v:Value} (h:wpAnyH F n P ops (NoPan Q) N S fuel (listed.setIfInBounds i true) (a.put oi.dst v) w)
  (hi:ops.toList[i]? = some oi:=by rfl) (hy:∀w,True->(execOp a.eval oi).run P w=.ok (.value v) w:=by intro w _;(go_simp;try first|rfl|(rw[if_pos (by omega)])|(rw[if_neg (by omega)])|(rw[if_neg (by simp;omega)])|(split<;>first|(exfalso;omega)|rfl))) (hF:∀f,F.fn f:=by exact fun _=>trivial)
  (hst:(noDefer ops&&Region.noSelect ops&&Region.free .any ops listed i&&(Region.ready .any ops listed).contains i)=true:=by kernel_rfl)
  (hg:Region.wanted oi (yielded ops a.tmps)=true:=by kernel_rfl) (hs:N.contains i=false:=by decide):wpAnyH F n P ops (NoPan Q) N S (fuel+1) listed a w:=takeP i hF hi hst (.inl ⟨hg,hy⟩) h hs
theorem tP (i:Nat) (v:Value) (hy:∀w,True->(execOp a.eval oi).run P w=.ok (.value v) w) (h:wpAnyH F n P ops (NoPan Q) N S fuel (listed.setIfInBounds i true) (a.put oi.dst v) w)
  (hF:∀f,F.fn f:=by exact fun _=>trivial) (hi:ops.toList[i]? = some oi:=by rfl)
  (hst:(noDefer ops&&Region.noSelect ops&&Region.free .any ops listed i&&(Region.ready .any ops listed).contains i)=true:=by kernel_rfl)
  (hg:Region.wanted oi (yielded ops a.tmps)=true:=by kernel_rfl) (hs:N.contains i=false:=by decide):wpAnyH F n P ops (NoPan Q) N S (fuel+1) listed a w:=takeP i hF hi hst (.inl ⟨hg,hy⟩) h hs
theorem tU (i:Nat) (hs:S w) (h:wpAnyH F n P ops (NoPan Q) N S fuel (listed.setIfInBounds i true) (a.put oi.dst undef) w)
  (hF:∀f,F.fn f:=by exact fun _=>trivial) (hi:ops.toList[i]? = some oi:=by rfl)
  (hst:(noDefer ops&&Region.noSelect ops&&Region.free .any ops listed i&&(Region.ready .any ops listed).contains i&&aheadIn ops N listed i)=true:=by kernel_rfl)
  (hg:Region.wanted oi (yielded ops a.tmps)=false:=by kernel_rfl):wpAnyH F n P ops (NoPan Q) N S (fuel+1) listed a w:=takeH i hF hi hst hs (.inr ⟨hg,rfl⟩) h
theorem tV (i:Nat) (h:wpAnyH F n P ops (NoPan Q) N S fuel (listed.setIfInBounds i true) (a.put oi.dst undef) w)
  (hF:∀f,F.fn f:=by exact fun _=>trivial) (hi:ops.toList[i]? = some oi:=by rfl)
  (hst:(noDefer ops&&Region.noSelect ops&&Region.free .any ops listed i&&(Region.ready .any ops listed).contains i)=true:=by kernel_rfl)
  (hg:Region.wanted oi (yielded ops a.tmps)=false:=by kernel_rfl) (hs:N.contains i=false:=by decide):wpAnyH F n P ops (NoPan Q) N S (fuel+1) listed a w:=takeP i hF hi hst (.inr ⟨hg,rfl⟩) h hs
end
end Go.Proofs.YtgmbefolgppmdaaGreat
end
section
namespace Go.Proofs
open Go.Shelf
def Tryz.lays213_ren:Go.Shelf.Ren:=⟨fun|213=>115|265=>129|n=>n,fun|9=>9|3=>3|n=>n,fun|n=>n⟩
def Tryz.lays106_ren:Go.Shelf.Ren:=⟨fun|106=>92|213=>115|265=>129|n=>n,fun|9=>9|3=>3|n=>n,fun|n=>n⟩
theorem Tryz.lays106:Go.Proofs.Lays.n106 Tryz.prog Tryz.lays106_ren:={
 mixed:=by kernel_rfl
 f106:=Tryz.func92.trans (congrArg some (by kernel_rfl))
 f213:=Tryz.func115.trans (congrArg some (by kernel_rfl))
 f265:=Tryz.func129.trans (congrArg some (by kernel_rfl))
 t3:=Tryz.underlying3
 a3:=Tryz.isAgg3
 z3:=Tryz.sizeOf3
 v3:=Tryz.zeroValue3
 t9:=Tryz.underlying9
 a9:=Tryz.isAgg9
 z9:=Tryz.sizeOf9
 v9:=Tryz.zeroValue9 }
open Go.RowKit in
theorem Tryz.strings_Compare (a b:ByteArray) (w:World) :
  Calls Tryz.prog 92 #[.string a,.string b] w fun e w'=>e=.returned (.int .i64 (Lib.compareBytes a.data.toList b.data.toList))/\w'=w:=Any.strings_Compare Tryz.lays106 a b w
def Tryz.lays215_ren:Go.Shelf.Ren:=⟨fun|215=>66|n=>n,fun|3=>3|4=>4|n=>n,fun|n=>n⟩
def Tryz.lays122_ren:Go.Shelf.Ren:=⟨fun|122=>35|215=>66|n=>n,fun|3=>3|4=>4|n=>n,fun|n=>n⟩
end Go.Proofs
end
section
namespace Go.Proofs.YtgmbefolgppmdaaGreat
open Go.RowKit
set_option maxRecDepth 100000
def Iter {σ:Type} (P:Program) (gf:Nat) (lb:Array Value) (Pre:World->Prop) (St Kp:World->World->Prop) (Y:σ->World->Array Value->σ->Prop) (k0:σ) (E:σ->Prop):Prop :=
 ∀(l:Nat) (J:σ->World->Prop) (Jx:World->Prop) (W:World),Pre W ->
  (∀k A B,J k A->St A B->J k B)->(∀A B,Jx A->St A B->Jx B) ->
  (∀k k' v A,J k A->Y k A v k'->YieldAt Fence.wide 0 P l v A fun e B=>(e=.returned (.bool true)/\J k' B/\Kp A B)\/(e=.returned (.bool false)/\Jx B)) ->
  J k0 W ->
  CallsIn Fence.wide 0 P gf (#[.func (.yield l) #[] #[]]++lb) W fun e B=>(∃v,e=.returned v)/\((∃k,E k/\J k B)\/Jx B)
def rfPost {σ:Type} (Kp:World->World->Prop) (I:σ->World->Prop) (Ix:Code->World->Prop) (k':σ) (W:World):Exit->Act->World->Prop
 | .normal,_,W'=>KeepsOthers W W'/\Kp W W'/\I k' W'
 | .ret,_,W'=>KeepsOthers W W'/\Ix .ret W'
 | .exit id,_,W'=>KeepsOthers W W'/\Ix (.exit id) W'
 | .goto t,_,W'=>KeepsOthers W W'/\Ix (.goto t) W'
 | .panic _,_,_=>False
 | .outgrown,_,_=>False
def rfNext {σ:Type} (P:Program) (l L:Nat) (Kp:World->World->Prop) (I:σ->World->Prop) (Ix:Code->World->Prop) (body:Code) (k':σ) (W:World) (a₁:Act) (W₁:World):Prop :=
 KeepsOthers W W₁/\Kp W W₁/\∀r o,l=L->W₁.heap[L]? = some (.loop r)->body.wpIn (Fence.wide.inRound l) 0 P (rfPost Kp I Ix k' (W₁.putObj L (.loop o))) a₁ (W₁.putObj L (.loop o))
theorem rfNext_same {σ:Type} {P:Program} {l L:Nat} {Kp:World->World->Prop} {I:σ->World->Prop} {Ix:Code->World->Prop} {body:Code} {k k':σ} {W:World} {a₁:Act}
  (hk:Kp W W) (hi:I k W) (hp:∀k A r o,I k A->A.heap[L]? = some (.loop r)->I k (A.putObj L o))
  (h:∀W₂ r,l=L->W₂.heap[L]? = some (.loop r)->I k W₂->body.wpIn (Fence.wide.inRound l) 0 P (rfPost Kp I Ix k' W₂) a₁ W₂):rfNext P l L Kp I Ix body k' W a₁ W :=
 ⟨KeepsOthers.refl W,hk,fun r o hl hr=>h _ o hl (World.putObj_heap_same (Array.getElem?_eq_some_iff.1 hr).1) (hp k W r (.loop o) hi hr)⟩
theorem wide_le {n:Nat}:Fence.wide.depth.isSome=true->1<=n:=fun h=>by cases h
variable {P:Program}
theorem rf_outer {σ:Type} {g:Operand} {ps:Array Tmp} {assign body:Code} {Q:Exit->Act->World->Prop} {a:Act} {w:World}
  {gf:Nat} {lb:Array Value} (hg:a.eval g=.func (.func gf) #[] lb) (eg:∀args w,(callFunc gf args).run P w=.ok (.enter gf args) w)
  {Pre:World->Prop} {St Kp:World->World->Prop} {Y:σ->World->Array Value->σ->Prop} {k0:σ} {E:σ->Prop} (hit:Iter P gf lb Pre St Kp Y k0 E)
  (hSt:∀A B,St A B->KeepsOthers A B) (hKt:∀A B C,Kp A B->Kp B C->Kp A C) (hKb:∀A o,Kp A (A.putObj (w.heap.size+1) o))
  (hps:∀k A v k',Y k A v k'->v.size=ps.size)
  (I:σ->World->Prop) (Ix:Code->World->Prop)
  (hIs:∀k A B,I k A->St A B->I k B) (hIxs:∀c A B,Ix c A->St A B->Ix c B)
  (hIp:∀k A r o,I k A->A.heap[w.heap.size+1]? = some (.loop r)->I k (A.putObj (w.heap.size+1) o)) (hIxp:∀c A r o,Ix c A->A.heap[w.heap.size+1]? = some (.loop r)->Ix c (A.putObj (w.heap.size+1) o))
  (h0:∀r,I k0 ((w.alloc (.deferred (some []))).alloc (.loop r))) (hpre:∀r,Pre ((w.alloc (.deferred (some []))).alloc (.loop r)))
  (hround:∀l k k' v W,I k W->Y k W v k' ->
   assign.wpIn (Fence.wide.inRound l) 0 P (Exit.then (rfNext P l (w.heap.size+1) Kp I Ix body k' W) (fun _ _ _=>False)) { tmps:=(ps.zip v).foldl (fun t (p,v)=>t.setIfInBounds p v) a.tmps,defers:=[] } W)
  (hdone:∀k W,E k->I k W->W.heap[w.heap.size]? = some (.deferred (some []))->Q .normal { a with defers:={ target:=.collected w.heap.size,args:=#[] }::a.defers } W)
  (hstop:∀c W,Ix c W->W.heap[w.heap.size]? = some (.deferred (some []))->c.wpIn Fence.wide 0 P Q { a with defers:={ target:=.collected w.heap.size,args:=#[] }::a.defers } W) :
  (Code.rangeFunc g ps assign body).wpIn Fence.wide 0 P Q a w:=by
 refine wpIn_rangeFunc ?_;intro fn hfn;obtain⟨rec,hrec⟩:∃rec:LoopState->Option Code->Loop,rec=fun st pe=>{ state:=st,pending:=pe,fn,tmps:=a.tmps,params:=ps,assign,body,defers:=w.heap.size }:=⟨_,rfl⟩
 obtain⟨W1,hW1⟩:=Zq ((w.alloc (.deferred (some []))).alloc (.loop (rec .ready none)));have hL1:W1.heap[w.heap.size+1]? = some (.loop (rec .ready none)):=by
  rw[<-hW1];have:=World.alloc_heap_new (w.alloc (.deferred (some []))) (.loop (rec .ready none));rwa [World.size_alloc] at this
 have hK1:W1.heap[w.heap.size]? = some (.deferred (some [])):=by
  rw[<-hW1];exact (Below.heap_alloc _ _ _ (by simp)).trans (World.alloc_heap_new w _)
 have hI1:I k0 W1:=by rw[<-hW1];exact h0 _
 have hP1:Pre W1:=by rw[<-hW1];exact hpre _
 refine⟨w.heap.size+1,[{ target:=.collected w.heap.size,args:=#[] }],W1,{ target:=.fn (.func gf) lb,args:=#[.func (.yield (w.heap.size+1)) #[] #[]] },W1,gf,
  #[.func (.yield (w.heap.size+1)) #[] #[]]++lb,W1,?_,?_,?_,?_,wide_le,?_⟩
 ·rw[<-hW1,hrec];exact run_enterLoop_outer _ _ _ _ _
 ·simp only[resolve,hg]
  simp[go_sem]
 ·intro f' _;trivial
 ·simp[invoke,go_sem,eg]
 ·refine (hit (w.heap.size+1)
   (fun k W=>I k W/\W.heap[w.heap.size+1]? = some (.loop (rec .ready none))/\W.heap[w.heap.size]? = some (.deferred (some [])))
   (fun W=>∃c,Ix c W/\W.heap[w.heap.size+1]? = some (.loop (rec .done (some c)))/\W.heap[w.heap.size]? = some (.deferred (some [])))
   W1 hP1
   (fun k A B hs hst=>⟨hIs k A B hs.1 hst,(hSt A B hst).same _ _ hs.2.1 rfl,(hSt A B hst).same _ _ hs.2.2 rfl⟩)
   (fun A B ⟨c,hc,hl,hk⟩ hst=>⟨c,hIxs c A B hc hst,(hSt A B hst).same _ _ hl rfl,(hSt A B hst).same _ _ hk rfl⟩)
   ?_ ⟨hI1,hL1,hK1⟩).mono ?_
  ·rintro k k' v W ⟨hi,hl,hk⟩ hyv
   have hlt:w.heap.size+1<W.heap.size:=(Array.getElem?_eq_some_iff.1 hl).1;have hy:=run_yield (P:=P) (args:=v) hl (by rw[hrec];exact hps k W v k' hyv)
   rw[hrec] at hy;refine⟨fn,_,assign,body,hy,roundIn_of_wpIn hfn (wpIn_mono (hround _ k k' v W hi hyv) ?_)⟩;clear hy;intro e a₁ Wa hx;cases e with
   | exit id=>exact hx.elim
   | goto t=>exact hx.elim
   | ret=>exact hx.elim
   | panic ch=>exact hx.elim
   | outgrown=>exact hx.elim
   | normal =>
   obtain⟨hkfa,hkpa,hbody⟩:=hx;replace hl:=hkfa.same _ _ hl rfl;replace hk:=hkfa.same _ _ hk rfl;replace hlt:w.heap.size+1<Wa.heap.size:=(Array.getElem?_eq_some_iff.1 hl).1;refine⟨_,run_beginRound hl (by rw[hrec]),?_⟩
   revert hkpa hkfa
   generalize W=Wb
   intro hkfa hkpa;obtain⟨W,rfl⟩:∃W,W=Wa:=⟨_,rfl⟩;have hl2:(W.putObj (w.heap.size+1) (.loop { rec .ready none with state:=.busy })).heap[w.heap.size+1]? = some (.loop { rec .ready none with state:=.busy }):=World.putObj_heap_same hlt
   have hk2:(W.putObj (w.heap.size+1) (.loop { rec .ready none with state:=.busy })).heap[w.heap.size]? = some (.deferred (some [])):=(World.putObj_heap_other (by omega)).trans hk
   have hw2:Kp W (W.putObj (w.heap.size+1) (.loop { rec .ready none with state:=.busy })):=hKb _ _
   refine wpIn_mono (hbody _ _ rfl hl) ?_;have fin:∀(jump:Option Code) (W3:World),KeepsOthers (W.putObj (w.heap.size+1) (.loop { rec .ready none with state:=.busy })) W3 ->
     (Instr.endRound (w.heap.size+1) jump).run P W3=.ok (.bool jump.isNone) (W3.putObj (w.heap.size+1) (.loop (rec (if jump.isNone then .ready else .done) jump))) /\
     (∃r,W3.heap[w.heap.size+1]? = some (.loop r)) /\
     (W3.putObj (w.heap.size+1) (.loop (rec (if jump.isNone then .ready else .done) jump))).heap[w.heap.size+1]? = some (.loop (rec (if jump.isNone then .ready else .done) jump)) /\
     (W3.putObj (w.heap.size+1) (.loop (rec (if jump.isNone then .ready else .done) jump))).heap[w.heap.size]? = some (.deferred (some [])):=fun jump W3 hk3=>by
    have hl3:=hk3.same _ _ hl2 rfl;have hl3':∃r,W3.heap[w.heap.size+1]? = some (.loop r):=⟨_,hl3⟩;have:=run_endRound (P:=P) jump hl3
    rw[hrec] at this ⊢;exact⟨this,hl3',World.putObj_heap_same (Array.getElem?_eq_some_iff.1 hl3).1,(World.putObj_heap_other (by omega)).trans (hk3.same _ _ hk2 rfl)⟩
   rintro e a3 W3 hp;cases e with
   | normal =>
    obtain⟨hk3,hkp3,hi3⟩:=hp;obtain⟨hr,⟨_,hl3⟩,hl4,hk4⟩:=fin none W3 hk3;exact⟨_,_,hr,.inl ⟨rfl,⟨hIp _ _ _ _ hi3 hl3,hl4,hk4⟩,hKt _ _ _ hkpa (hKt _ _ _ (hKt _ _ _ hw2 hkp3) (hKb _ _))⟩⟩
   | ret =>
    obtain⟨hk3,hi3⟩:=hp;obtain⟨hr,⟨_,hl3⟩,hl4,hk4⟩:=fin (some .ret) W3 hk3;exact⟨_,_,hr,.inr ⟨rfl,.ret,hIxp _ _ _ _ hi3 hl3,hl4,hk4⟩⟩
   | exit id =>
    obtain⟨hk3,hi3⟩:=hp;obtain⟨hr,⟨_,hl3⟩,hl4,hk4⟩:=fin (some (.exit id)) W3 hk3;exact⟨_,_,hr,.inr ⟨rfl,.exit id,hIxp _ _ _ _ hi3 hl3,hl4,hk4⟩⟩
   | goto t =>
    obtain⟨hk3,hi3⟩:=hp;obtain⟨hr,⟨_,hl3⟩,hl4,hk4⟩:=fin (some (.goto t)) W3 hk3;exact⟨_,_,hr,.inr ⟨rfl,.goto t,hIxp _ _ _ _ hi3 hl3,hl4,hk4⟩⟩
   | panic ch=>exact hp.elim
   | outgrown=>exact hp.elim
  ·rintro e W2 ⟨⟨v,rfl⟩,(⟨k,hS,hi,hl,hk⟩|⟨c,hi,hl,hk⟩)⟩
   ·exact⟨none,_,by have:=run_endLoop (P:=P) hl (by rw[hrec];simp);rw[hrec] at this;exact this,hdone k _ hS (hIp _ _ _ _ hi hl) ((World.putObj_heap_other (by omega)).trans hk)⟩
   ·exact⟨some c,_,by have:=run_endLoop (P:=P) hl (by rw[hrec];simp);rw[hrec] at this;exact this,hstop c _ (hIxp _ _ _ _ hi hl) ((World.putObj_heap_other (by omega)).trans hk)⟩
end Go.Proofs.YtgmbefolgppmdaaGreat
end
section
namespace Go.Proofs.YtgmbefolgppmdaaGreat
open Go.RowKit Go.Shelf
set_option maxRecDepth 100000
abbrev S (l:List UInt8):Value:=.string ⟨l.toArray⟩
abbrev I64 (n:Int):Value:=.int .i64 n
theorem ret_int {k:IntKind} {a b:Int} (h:a=b):Ending.returned (.int k a)=.returned (.int k b):=by rw[h]
@[go_sem] theorem getElem_S (l:List UInt8) (k:Nat) (h:k<(ByteArray.mk l.toArray).size):(ByteArray.mk l.toArray)[k]=l[k]'h:=rfl
@[go_sem] theorem take_sub_drop (l:List UInt8) (a:Nat):(l.drop a).take (l.length-a)=l.drop a:=List.take_of_length_le (by simp)
@[go_sem] theorem extract_S (l:List UInt8) (a b:Nat):(ByteArray.mk l.toArray).extract a b=⟨((l.drop a).take (b-a)).toArray⟩:=by
 rw[ByteArray.extract_mk]
theorem Z6 {W W':World} (h:Below W.heap.size W W'):KeepsOthers W W' :=
 ⟨h.size,fun k _o hk _=>(h.block k (Array.getElem?_eq_some_iff.1 hk).1).trans hk⟩
@[go_sem,simp] theorem wide_depth:Fence.wide.depth=none:=rfl
@[go_sem,simp] theorem wide_fn (f:FuncId):Fence.wide.fn f:=trivial
@[go_sem,simp] theorem wide_fn' (f:FuncId):Fence.wide.fn f=True:=rfl
def Box (b:Nat) (t:TypeId) (v:Value) (W:World):Prop:=W.heap[b]? = some (.cells #[v] t (0,0))
theorem Box.lt {b t v W} (h:Box b t v W):b<W.heap.size:=(Array.getElem?_eq_some_iff.1 h).1
theorem Box.cell {b t v W} (h:Box b t v W):W.cell? ⟨b,0,none⟩=some v:=by unfold Box at h;simp[World.cell?,h]
theorem Box.frozen {b t v W} (h:Box b t v W):W.frozen? ⟨b,0,none⟩=false:=by unfold Box at h;simp[World.frozen?,h]
theorem Box.below {b t v} {W W':World} (h:Box b t v W) (hb:Below W.heap.size W W'):Box b t v W':=(hb.block b h.lt).trans h
theorem Box.new (W:World) (t:TypeId) (v:Value):Box W.heap.size t v (W.alloc (.cells #[v] t)):=World.alloc_heap_new W _
theorem Box.alloc {b t v W} (h:Box b t v W) (o:Obj):Box b t v (W.alloc o):=(Below.heap_alloc W o b h.lt).trans h
theorem Box.put {b t v W l r} (h:Box b t v W) (hr:W.heap[l]? = some (.loop r)) (o:Obj):Box b t v (W.putObj l o):=by
 have hne:b≠l:=fun e=>by unfold Box at h;rw[e,hr] at h;cases h
 exact (World.putObj_heap_other (by omega)).trans h
theorem Box.putD {b t v W l d} (h:Box b t v W) (hr:W.heap[l]? = some (.deferred d)) (o:Obj):Box b t v (W.putObj l o):=by
 have hne:b≠l:=fun e=>by unfold Box at h;rw[e,hr] at h;cases h
 exact (World.putObj_heap_other (by omega)).trans h
theorem below_putD {n:Nat} {w W:World} (h:Below n w W) {l:Nat} (hl:n<=l) (hn:n<=W.heap.size) (o:Obj):Below n w (W.putObj l o) :=
 h.grown (grownBy_putObj' W l o) hn (fun k e=>by have:=Option.some.inj e;omega)
theorem Box.others {b t v W W' e c} (h:Box b t v W) (ho:Lib.OthersKept e (some c) W W') (hb:b≠c) (ht:t≠e):Box b t v W' :=
 ho b _ h (fun x=>hb (by cases x;rfl)) (fun _ _ x=>ht (by cases x;rfl))
theorem Box.set {b t v W} (h:Box b t v W) (u:Value):Box b t u (W.setCell ⟨b,0,none⟩ u):=by
 unfold Box at h ⊢;simp[World.setCell,Array.getElem?_modify,h]
theorem Box.setOther {b t v W} (h:Box b t v W) {c o:Nat} (hne:b≠c) (u:Value):Box b t v (W.setCell ⟨c,o,none⟩ u):=(Below.heap_setCell _ _ _ _ hne).trans h
theorem below_put {n:Nat} {w W:World} (h:Below n w W) {l:Nat} (hl:n<=l) {r} (_hr:W.heap[l]? = some (.loop r)) (hn:n<=W.heap.size) (o:Obj):Below n w (W.putObj l o) :=
 h.grown (grownBy_putObj' W l o) hn (fun k e=>by cases e;exact hl)
def sameCell (b:Nat) (A B:World):Prop:=B.cell? ⟨b,0,none⟩=A.cell? ⟨b,0,none⟩
theorem sameCell.trans {b:Nat} (A B C:World) (h:sameCell b A B) (k:sameCell b B C):sameCell b A C:=Eq.trans k h
theorem sameCell.put {b l:Nat} (h:b≠l) (A:World) (o:Obj):sameCell b A (A.putObj l o):=by
 unfold sameCell World.cell?;rw[World.putObj_heap_other (by simpa using h)]
theorem Box.same {b t v W W'} (h:Box b t v W) (h':Box b t v W'):sameCell b W W':=h'.cell.trans h.cell.symm
def CellsKept (W W':World):Prop:=∀(k:Nat) (c:Array Value) (t:TypeId) (f:Nat × Nat),W.heap[k]? = some (Obj.cells c t f)->W'.heap[k]? = some (Obj.cells c t f)
theorem CellsKept.put {W:World} {l r} (hr:W.heap[l]? = some (.loop r)) (o:Obj):CellsKept W (W.putObj l o) :=
 fun k c t f hk=>(World.putObj_heap_other (fun e=>by rw[e,hr] at hk;cases hk)).trans hk
theorem CellsKept.below {W W':World} (hb:Below W.heap.size W W'):CellsKept W W':=fun k _c _t _f hk=>(hb.block k (Array.getElem?_eq_some_iff.1 hk).1).trans hk
theorem CellsKept.alloc (W:World) (o:Obj):CellsKept W (W.alloc o):=fun k _c _t _f hk=>(Below.heap_alloc W o k (Array.getElem?_eq_some_iff.1 hk).1).trans hk
end Go.Proofs.YtgmbefolgppmdaaGreat
end
