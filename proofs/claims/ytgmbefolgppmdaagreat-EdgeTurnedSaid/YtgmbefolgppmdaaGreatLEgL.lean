/- Flaws between parents and children: two rows in order, of the same (plain). -/
import Derived.Test.YtgmbefolgppmdaaGreatLEgH
import Derived.Test.YtgmbefolgppmdaaGreatLAli
import Derived.Test.YtgmbefolgppmdaaGreatLSfC
namespace Go.Proofs.YtgmbefolgppmdaaGreat
open Go.RowKit Go.Shelf Go.Sort
set_option maxRecDepth 100000
section
namespace Eg
def alike:List PEg->List PEg->Bool
 | [],[]=>true
 | x::a,y::b=>(cmp x y == 0)&&alike a b
 | _,_=>false
abbrev Strict (l:List PEg):Prop:=l.Pairwise fun a b=>cmp a b<0
theorem zero_flip {a b:PEg} (h:cmp a b=0):cmp b a=0:=by have:=cmp_cm.anti a b;omega
theorem Strict.one:∀{L:List PEg},Strict L->∀{x y:PEg},x∈L->y∈L->cmp x y=0->x=y
 | c::L,h,x,y,hx,hy,e=>by
  have h':=List.pairwise_cons.1 h;rcases List.mem_cons.1 hx with h1|h1<;>rcases List.mem_cons.1 hy with h2|h2
  ·rw[h1,h2]
  ·have:=h'.1 y h2;rw[h1] at e;omega
  ·have:=h'.1 x h1;have:=cmp_cm.anti x y;rw[h2] at e this;omega
  ·exact Strict.one h'.2 h1 h2 e
theorem alike_of:∀{a b:List PEg},Strict a->Strict b->(∀x∈a,∃y∈b,cmp x y=0)->(∀y∈b,∃x∈a,cmp x y=0)->alike a b=true
 | [],[],_,_,_,_=>rfl
 | [],y::b,_,_,_,h=>by obtain⟨x,hx,_⟩:=h y Zu;cases hx
 | x::a,[],_,_,h,_=>by obtain⟨x,hx,_⟩:=h x Zu;cases hx
 | x::a,y::b,ha,hb,h1,h2=>by
  have ha':=List.pairwise_cons.1 ha;have hb':=List.pairwise_cons.1 hb;have hxy:cmp x y=0:=by
   obtain⟨u,hu,k⟩:=h1 x Zu;obtain⟨v,hv,k'⟩:=h2 y Zu;rcases List.mem_cons.1 hu with rfl|hu
   ·exact k
   ·rcases List.mem_cons.1 hv with rfl|hv
    ·exact k'
    ·exfalso
     have e1:=hb'.1 u hu;have e2:=ha'.1 v hv;have a1:=cmp_cm.anti x u;have e3:=cmp_cm.lt_le (a:=y) (b:=u) (c:=x) e1 (by omega)
     have e4:=cmp_cm.lt_le (a:=y) (b:=x) (c:=v) e3 (by omega)
     have:=cmp_cm.anti v y
     omega
  rw[alike,hxy,beq_self_eq_true,Bool.true_and];refine alike_of ha'.2 hb'.2 (fun z hz=>?_) (fun z hz=>?_)
  ·obtain⟨u,hu,k⟩:=h1 z (Zv _ hz)
   rcases List.mem_cons.1 hu with rfl|hu
   ·exfalso
    have e1:=ha'.1 z hz;have:=cmp_cm.anti z u
    have:=cmp_cm.zero (a:=x) (b:=u) (c:=z) hxy (by omega)
    omega
   ·exact⟨u,hu,k⟩
  ·obtain⟨u,hu,k⟩:=h2 z (Zv _ hz)
   rcases List.mem_cons.1 hu with rfl|hu
   ·exfalso
    have e1:=hb'.1 z hz;have:=cmp_cm.anti u y
    have:=cmp_cm.zero (a:=y) (b:=u) (c:=z) (by omega) k
    omega
   ·exact⟨u,hu,k⟩
structure Of (c l:List PEg):Prop where
 strict:Strict c
 some:∀x∈c,x∈l
 all:∀y∈l,∃x∈c,cmp x y=0
theorem Of.same {a b l:List PEg} (h:Of a l) (k:Of b l):alike a b=true :=
 alike_of h.strict k.strict (fun x hx=>by
  obtain⟨y,hy,e⟩:=k.all x (h.some x hx);exact⟨y,hy,zero_flip e⟩) (fun y hy=>h.all y (k.some y hy))
def put (x:PEg):List PEg->List PEg
 | []=>[x]
 | y::L=>if cmp y x<0 then y::put x L else if cmp y x=0 then y::L else x::y::L
theorem put_mem {x z:PEg}:∀{L:List PEg},z∈put x L->z=x\/z∈L
 | [],h=>by
  simp only[put,List.mem_singleton] at h;exact .inl h
 | y::L,h=>by
  rw[put] at h;split at h
  ·rcases List.mem_cons.1 h with rfl|h
   ·exact .inr Zu
   ·rcases put_mem h with e|e
    ·exact .inl e
    ·exact .inr (Zv _ e)
  ·split at h
   ·exact .inr h
   ·rcases List.mem_cons.1 h with e|h
    ·exact .inl e
    ·exact .inr h
theorem put_keeps (x:PEg):∀{L:List PEg} {z:PEg},z∈L->z∈put x L
 | y::L,z,h=>by
  rw[put];split
  ·rcases List.mem_cons.1 h with rfl|h
   ·exact Zu
   ·exact Zv _ (put_keeps x h)
  ·split
   ·exact h
   ·exact Zv _ h
theorem put_has (x:PEg):∀L:List PEg,∃z∈put x L,cmp z x=0
 | []=>⟨x,by simp[put],cmp_cm.refl x⟩
 | y::L=>by
  rw[put];split
  ·obtain⟨z,hz,e⟩:=put_has x L;exact⟨z,Zv _ hz,e⟩
  ·split
   ·rename_i h;exact⟨y,Zu,h⟩
   ·exact⟨x,Zu,cmp_cm.refl x⟩
theorem put_strict (x:PEg):∀{L:List PEg},Strict L->Strict (put x L)
 | [],_=>List.pairwise_singleton _ _
 | y::L,h=>by
  have h':=List.pairwise_cons.1 h;rw[put];split
  ·rename_i hlt
   refine List.pairwise_cons.2 ⟨fun z hz=>?_,put_strict x h'.2⟩
   rcases put_mem hz with rfl|hz
   ·exact hlt
   ·exact h'.1 z hz
  ·split
   ·exact h
   ·rename_i h1 h2
    have hxy:cmp x y<0:=by have:=cmp_cm.anti x y;omega
    refine List.pairwise_cons.2 ⟨fun z hz=>?_,h⟩
    rcases List.mem_cons.1 hz with rfl|hz
    ·exact hxy
    ·have:=h'.1 z hz
     exact cmp_cm.lt_le (b:=y) hxy (by omega)
theorem Of.put {c l:List PEg} (h:Of c l) (x:PEg):Of (put x c) (l++[x]):=by
 refine⟨put_strict x h.strict,fun z hz=>?_,fun y hy=>?_⟩
 ·rcases put_mem hz with rfl|hz
  ·simp
  ·exact List.mem_append_left _ (h.some z hz)
 ·rcases List.mem_append.1 hy with hy|hy
  ·obtain⟨z,hz,e⟩:=h.all y hy;exact⟨z,put_keeps x hz,e⟩
  ·rw[List.mem_singleton] at hy;subst hy;exact put_has y c
theorem Of.nil:Of [] []:=⟨List.Pairwise.nil,by simp,by simp⟩
theorem fewL_head:∀(l:List PEg) (x:PEg),∃t,fewL x l=x::t
 | [],x=>⟨[],rfl⟩
 | y::l,x=>by
  rw[fewL];split
  ·exact fewL_head l x
  ·exact⟨_,rfl⟩
theorem fewL_of:∀(l:List PEg) (x:PEg),(x::l).Pairwise (fun a b=>cmp a b<=0)->Of (fewL x l) (x::l)
 | [],x,_=>⟨List.pairwise_singleton _ _,fun z h=>h,fun z h=>⟨z,h,cmp_cm.refl z⟩⟩
 | y::l,x,h=>by
  have h':=List.pairwise_cons.1 h;have h'':=List.pairwise_cons.1 h'.2;rw[fewL];split
  ·rename_i e
   have ih:=fewL_of l x (List.pairwise_cons.2 ⟨fun z hz=>h'.1 z (Zv _ hz),h''.2⟩)
   obtain⟨t,ht⟩:=fewL_head l x;refine⟨ih.strict,fun z hz=>?_,fun z hz=>?_⟩
   ·rcases List.mem_cons.1 (ih.some z hz) with rfl|hz
    ·exact Zu
    ·exact Zv _ (Zv _ hz)
   ·rcases List.mem_cons.1 hz with rfl|hz
    ·exact ih.all z Zu
    ·rcases List.mem_cons.1 hz with rfl|hz
     ·exact⟨x,by rw[ht];exact Zu,e⟩
     ·exact ih.all z (Zv _ hz)
  ·rename_i e
   have ih:=fewL_of l y h'.2;have hxy:cmp x y<0:=by have:=h'.1 y Zu;omega
   refine⟨List.pairwise_cons.2 ⟨fun z hz=>?_,ih.strict⟩,fun z hz=>?_,fun z hz=>?_⟩
   ·rcases List.mem_cons.1 (ih.some z hz) with rfl|hz
    ·exact hxy
    ·exact cmp_cm.lt_le (b:=y) hxy (h''.1 z hz)
   ·rcases List.mem_cons.1 hz with rfl|hz
    ·exact Zu
    ·exact Zv _ (ih.some z hz)
   ·rcases List.mem_cons.1 hz with rfl|hz
    ·exact⟨z,Zu,cmp_cm.refl z⟩
    ·obtain⟨u,hu,k⟩:=ih.all z hz;exact⟨u,Zv _ hu,k⟩
theorem few_of (l:List PEg) (h:l.Pairwise fun a b=>cmp a b<=0):Of (few l) l:=by
 cases l with
 | nil=>exact Of.nil
 | cons x l=>exact fewL_of l x h
theorem few_srt {w:World} (l:List (ElG w)):Of (few (plG (Srt.srt (Ed.ltC cfG) l))) (plG l):=by
 have ho:=Ed.cfG_ord w;have hst:=Srt.srt_st ho l;obtain⟨s,hs⟩:∃s,Srt.srt (Ed.ltC (cfG (w:=w))) l=s:=⟨_,rfl⟩;rw[hs] at hst ⊢;have hm:∀x,x∈s ↔ x∈l:=fun x=>hst.2.mem ho
 have hp:(plG s).Pairwise fun a b=>cmp a b<=0:=by
  refine List.pairwise_map.2 (hst.1.imp fun {a b} hab=>?_)
  have h1:¬cmp b.1.2 a.1.2<0:=by
   have h2:decide (cfG b a<0)=false:=hab;exact of_decide_eq_false h2
  have:=cmp_cm.anti a.1.2 b.1.2
  omega
 have h:=few_of _ hp;refine⟨h.strict,fun x hx=>?_,fun y hy=>?_⟩
 ·obtain⟨z,hz,rfl⟩:=List.mem_map.1 (h.some x hx)
  exact List.mem_map.2 ⟨z,(hm z).1 hz,rfl⟩
 ·obtain⟨z,hz,rfl⟩:=List.mem_map.1 hy
  exact h.all _ (List.mem_map.2 ⟨z,(hm z).2 hz,rfl⟩)
end Eg
theorem Eg.Of.plain {w:World} {l l':List (ElG w)} (h:plG l'=Eg.few (plG (Srt.srt (Ed.ltC cfG) l))):Eg.Of (plG l') (plG l):=by
 rw[h];exact Eg.few_srt l
def ElG.up {w w':World} (hb:Below w.heap.size w w') (x:ElG w):ElG w':=⟨x.1,x.2.1.below hb,x.2.2⟩
theorem upG_enc {w w':World} (hb:Below w.heap.size w w') (l:List (ElG w)):(l.map (ElG.up hb)).map encG=l.map encG:=by rw[List.map_map];rfl
theorem upG_pl {w w':World} (hb:Below w.heap.size w w') (l:List (ElG w)):plG (l.map (ElG.up hb))=plG l:=by unfold plG;rw[List.map_map];rfl
theorem Eg.alike_at:∀{a b:List PEg},Eg.alike a b=true->a.length=b.length/\∀i (h:i<a.length) (h':i<b.length),Eg.cmp a[i] b[i]=0
 | [],[],_=>⟨rfl,fun i h=>by simp at h⟩
 | x::a,y::b,h=>by
  rw[Eg.alike,Bool.and_eq_true,beq_iff_eq] at h;obtain⟨h1,h2⟩:=Eg.alike_at h.2;refine⟨by simp[h1],fun i hi hi'=>?_⟩
  cases i with
  | zero=>exact h.1
  | succ i=>exact h2 i (by simpa using hi) (by simpa using hi')
 | [],_::_,h=>by simp[Eg.alike] at h
 | _::_,[],h=>by simp[Eg.alike] at h
end
section
namespace Rs
open Rc
theorem put_all {p:PRec->Prop} (hp:∀(y:PRec) (t:Nat),p y->p { y with ttl:=t }) {x:PRec} (hx:p x):∀{L:List PRec},(∀z∈L,p z)->∀z∈put x L,p z
 | [],_,z,hz=>by
  simp only[put,List.mem_singleton] at hz;subst hz;exact hx
 | y::L,h,z,hz=>by
  rw[put_cons] at hz;split at hz
  ·rcases List.mem_cons.1 hz with rfl|hz
   ·exact h _ Zu
   ·exact put_all hp hx (fun z hz=>h z (Zv _ hz)) z hz
  ·split at hz
   ·rcases List.mem_cons.1 hz with rfl|hz
    ·split
     ·exact hp _ _ (h y Zu)
     ·exact h y Zu
    ·exact h z (Zv _ hz)
   ·rcases List.mem_cons.1 hz with rfl|hz
    ·exact hx
    ·exact h z hz
theorem foldl_all {p:PRec->Prop} (hp:∀(y:PRec) (t:Nat),p y->p { y with ttl:=t }):∀(l L:List PRec),(∀z∈l,p z)->(∀z∈L,p z)->∀z∈l.foldl (fun c x=>put x c) L,p z
 | [],_,_,h=>h
 | x::l,L,h1,h2=>foldl_all hp l (put x L) (fun z hz=>h1 z (Zv _ hz)) (put_all hp (h1 x Zu) h2)
theorem canon_all {p:PRec->Prop} (hp:∀(y:PRec) (t:Nat),p y->p { y with ttl:=t }) (l:List PRec) (h:∀z∈l,p z):∀z∈canon l,p z:=by
 rw[canon_eq];exact foldl_all hp l [] h (by simp)
theorem run_mem {x:PRec}:∀{g:List PRec},run x g=g.length->∀z∈g,P x z=true
 | [],_,z,hz=>by cases hz
 | y::g,h,z,hz=>by
  unfold run at h;by_cases hy:P x y=true
  ·simp only[List.takeWhile_cons,hy,if_true,Ze] at h
   rcases List.mem_cons.1 hz with rfl|hz
   ·exact hy
   ·exact run_mem (by unfold run;omega) z hz
  ·simp[hy] at h
theorem grpF_flat:∀(f:Nat) (l:List PRec),l.length<=f->(grpF f l).flatten=l
 | 0,l,h=>by
  have:l=[]:=List.length_eq_zero_iff.1 (by omega)
  subst this;rfl
 | f+1,[],_=>rfl
 | f+1,x::l,h=>by
  show (_::grpF f _).flatten=_;have hp:=run_pos x l;rw[List.flatten_cons,grpF_flat f _ (by rw[List.length_drop,Ze];simp only[Ze] at h;omega),List.take_append_drop]
def tys (o:List (List UInt8)) (gs:List (List PRec)):List Int:=((gs.filterMap List.head?).filter fun x=>Nm.same x.owner o).map PRec.type
abbrev G (l:List PRec):List (List PRec):=grpF (canon l).length (canon l)
theorem G_of {l:List PRec} {r:PRec} (h:r∈canon l):∃x xs,x::xs∈G l/\P x r=true/\r∈x::xs:=by
 have hf:=grpF_flat (canon l).length (canon l) (Zh _);rw[<-hf] at h;obtain⟨g,hg,hr⟩:=List.mem_flatten.1 h;obtain⟨x,xs,rfl,_,h3,_⟩:=grp_found hg;exact⟨x,xs,hg,run_mem h3 r hr,hr⟩
def hasP (o:List (List UInt8)) (t:Int):List PRec->Bool
 | []=>false
 | x::_=>(x.type == t)&&Nm.same x.owner o
theorem mine_find (l:List PRec) (o:List (List UInt8)) (t:Int):mine l o t=((G l).find? (hasP o t)).getD []/\∀g,(G l).find? (hasP o t)=some g->∃x xs,g=x::xs/\run x g=g.length:=by
 have hm:mine l o t=(canon l).filter (Q o t):=by unfold mine;exact canon_filter (Q_inv _ _) l
 cases hf:(G l).find? (hasP o t) with
 | none =>
  refine⟨?_,fun g h=>by cases h⟩
  rw[hm];show _=[];rw[List.filter_eq_nil_iff];intro r hr hq;obtain⟨x,xs,hx,hp,_⟩:=G_of hr;have hn:=List.find?_eq_none.1 hf _ hx;refine hn ?_;unfold P at hp;unfold Q at hq;rw[Bool.and_eq_true,beq_iff_eq] at hp hq;unfold hasP;rw[Bool.and_eq_true,beq_iff_eq];refine⟨by rw[hp.1,hq.1],?_⟩
  have h1:=hp.2;have h2:=hq.2;unfold Nm.same at h1 h2 ⊢;rw[beq_iff_eq] at h1 h2 ⊢;rw[h1,h2]
 | some g =>
  have hg:g∈G l:=List.mem_of_find?_eq_some hf;have hk:hasP o t g=true:=List.find?_some hf;obtain⟨x,xs,rfl,h1,h2,_⟩:=grp_found hg;refine⟨?_,fun g h=>by cases h;exact⟨x,xs,rfl,h2⟩⟩
  show _=x::xs;rw[<-h1];unfold hasP at hk;rw[Bool.and_eq_true,beq_iff_eq] at hk;have hs:Nm.fold x.owner=Nm.fold o:=by
   have:=hk.2
   unfold Nm.same at this
   rwa [beq_iff_eq] at this
  have hQ:Q o t=Q x.owner x.type:=by
   funext r
   unfold Q Nm.same;rw[hk.1,hs]
  unfold mine;rw[hQ]
end Rs
section
variable {w:World}
theorem DF.ttl {r:Rc.PRec} (h:DF r) (t:Nat):DF { r with ttl:=t }:=⟨h.names,h.nums,h.texts,h.raw,h.name,h.text⟩
end
end
end Go.Proofs.YtgmbefolgppmdaaGreat
