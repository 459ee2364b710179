/- Sets of records: plain laws. -/
import Derived.Test.YtgmbefolgppmdaaGreatLSeW
import Derived.Test.YtgmbefolgppmdaaGreatLAli
import Derived.Test.YtgmbefolgppmdaaGreatLSgD
import Derived.Test.YtgmbefolgppmdaaGreatLReg
import Derived.Test.YtgmbefolgppmdaaGreatLSgC
import Derived.Test.YtgmbefolgppmdaaGreatLZnA
import Derived.Test.YtgmbefolgppmdaaGreatLRcA
import Derived.Test.YtgmbefolgppmdaaGreatLSrtW
import Derived.Test.YtgmbefolgppmdaaGreatLBase
namespace Go.Proofs.YtgmbefolgppmdaaGreat
open Go.RowKit Go.Shelf Go.Sort
set_option maxRecDepth 100000
section
namespace Rs
open Rc
def cmpK (a b:PRec):Int:=orI (Nm.cmp a.owner b.owner) (Nm.sgn a.type b.type)
theorem cmpK_cm:Cm cmpK:=(name_cm.pull PRec.owner).or (sgn_cm.pull PRec.type)
theorem sgn_self (a:Int):Nm.sgn a a=0:=by unfold Nm.sgn;simp
theorem cmpK_zero {a b:PRec}:cmpK a b=0 ↔ P a b=true:=by
 unfold cmpK P;rw[orI_zero,Bool.and_eq_true,beq_iff_eq];have h:=Nm.cmp_zero a.owner b.owner;constructor
 ·rintro⟨h1,h2⟩
  refine⟨sgn_zero h2,?_⟩;rw[h1] at h;exact h.symm
 ·rintro⟨h1,h2⟩
  rw[h2] at h;exact⟨by simpa using h,by rw[h1];exact sgn_self _⟩
theorem cmp_key {a b:PRec}:cmp a b=orI (cmpK a b) (cmpD a b):=by
 unfold cmp cmpK orI;by_cases h:Nm.cmp a.owner b.owner=0<;>by_cases h2:Nm.sgn a.type b.type=0<;>simp[h,h2]
theorem cmp_le_key {a b:PRec} (h:cmp a b<=0):cmpK a b<=0:=by
 rw[cmp_key] at h;unfold orI at h;split at h<;>omega
def Inv (q:PRec->Bool):Prop:=∀a b,cmp a b=0->q a=q b
theorem Q_inv (o:List (List UInt8)) (t:Int):Inv (Q o t):=fun a b h=>by
 unfold Q Nm.same;rw[cmp_type h,cmp_owner h]
theorem put_cons (x y:PRec) (L:List PRec):put x (y::L)=if cmp y x<0 then y::put x L else if cmp y x=0 then (if x.ttl<y.ttl then { y with ttl:=x.ttl } else y)::L else x::y::L:=rfl
theorem put_ahead {x:PRec}:∀{L:List PRec},(∀y∈L,0<cmp y x)->put x L=x::L
 | [],_=>rfl
 | y::L,h=>by
  have:=h y Zu
  rw[put_cons,if_neg (by omega),if_neg (by omega)]
theorem put_filter {q:PRec->Bool} (hq:Inv q) (x:PRec):∀{L:List PRec},Strict L->(put x L).filter q=if q x then put x (L.filter q) else L.filter q
 | [],_=>by unfold put;by_cases h:q x=true<;>simp[h]
 | y::L,hs=>by
  have hs':=List.pairwise_cons.1 hs;rw[put_cons];split
  ·rename_i hlt
   rw[List.filter_cons,List.filter_cons,put_filter hq x hs'.2];by_cases hx:q x=true<;>by_cases hy:q y=true<;>simp only[hx,hy,if_true,if_false,Bool.false_eq_true]
   rw[put_cons,if_pos hlt]
  ·split
   ·rename_i hnl h0
    have hyx:=hq y x h0;have hy':∀z:PRec,(z=y\/z={ y with ttl:=x.ttl })->q z=q x:=fun z hz=>by
     rcases hz with rfl|rfl
     ·exact hyx
     ·rw[<-hyx];exact hq _ _ (cmp_cm.refl y)
    by_cases hx:q x=true
    ·rw[List.filter_cons,hy' _ (by split<;>simp),if_pos hx,if_pos hx,List.filter_cons,hyx,if_pos hx,put_cons,if_neg hnl,if_pos h0]
    ·rw[List.filter_cons,hy' _ (by split<;>simp),if_neg hx,if_neg hx,List.filter_cons,hyx,if_neg hx]
   ·rename_i hnl h0
    by_cases hx:q x=true
    ·rw[List.filter_cons,if_pos hx,if_pos hx,put_ahead]
     intro z hz;have hzm:=(List.mem_filter.1 hz).1;have ha:=cmp_cm.anti y x;rcases List.mem_cons.1 hzm with rfl|hzm
     ·omega
     ·have h1:=hs'.1 z hzm
      have h2:=cmp_cm.lt_le (a:=x) (b:=y) (c:=z) (by omega) (by omega)
      have h3:=cmp_cm.anti x z;omega
    ·rw[List.filter_cons,if_neg hx,if_neg hx]
theorem canon_filter {q:PRec->Bool} (hq:Inv q) (l:List PRec):canon (l.filter q)=(canon l).filter q:=by
 suffices H:∀n (l:List PRec),l.length=n->canon (l.filter q)=(canon l).filter q from H _ l rfl
 intro n
 induction n with
 | zero=>intro l hl;obtain rfl:=List.length_eq_zero_iff.1 hl;rfl
 | succ n ih =>
  intro l hl;obtain⟨l',x,rfl⟩:∃l' x,l=l'++[x]:=by
   rcases List.eq_nil_or_concat l with h|⟨l',x,h⟩
   ·rw[h] at hl;simp at hl
   ·exact⟨l',x,by rw[h,List.concat_eq_append]⟩
  have ih':=ih l' (by simpa using hl)
  rw[canon_eq (l'++[x]),refCanon_snoc,<-canon_eq,put_filter hq x (canon_of l').strict,List.filter_append];by_cases hx:q x=true
  ·rw[if_pos hx,<-ih',List.filter_cons_of_pos hx,List.filter_nil,canon_eq,refCanon_snoc,<-canon_eq]
  ·rw[if_neg hx,<-ih',List.filter_cons_of_neg hx,List.filter_nil,List.append_nil]
theorem run_split (x:PRec):∀{l:List PRec},Strict l->(∀y∈l,cmpK x y<=0)->l.filter (P x)=l.take (run x l)/\∀z∈l.drop (run x l),cmpK x z<0
 | [],_,_=>⟨rfl,by simp⟩
 | y::l,hs,hk=>by
  have hs':=List.pairwise_cons.1 hs;have ih:=run_split x hs'.2 (fun z hz=>hk z (Zv _ hz))
  by_cases hp:P x y=true
  ·have hr:run x (y::l)=run x l+1:=by unfold run;rw[List.takeWhile_cons_of_pos hp];rfl
   rw[hr,List.filter_cons_of_pos hp,List.take_succ_cons,List.drop_succ_cons,ih.1];exact⟨rfl,ih.2⟩
  ·have hr:run x (y::l)=0:=by unfold run;rw[List.takeWhile_cons_of_neg hp];rfl
   have hlt:∀z∈y::l,cmpK x z<0:=by
    have h0:cmpK x y<0:=by
     have:=hk y Zu
     have hne:cmpK x y≠0:=fun e=>hp (cmpK_zero.1 e)
     omega
    intro z hz;rcases List.mem_cons.1 hz with rfl|hz
    ·exact h0
    ·exact cmpK_cm.lt_le h0 (cmp_le_key (by have:=hs'.1 z hz;omega))
   rw[hr];refine⟨?_,by simpa using hlt⟩
   rw[List.take_zero,List.filter_eq_nil_iff];intro z hz hpz;have:=hlt z hz
   have:=cmpK_zero.2 hpz
   omega
theorem run_all {x:PRec}:∀{g:List PRec},(∀z∈g,P x z=true)->run x g=g.length
 | [],_=>rfl
 | z::g,h=>by
  have ih:=run_all (x:=x) (g:=g) (fun y hy=>h y (Zv _ hy))
  unfold run at ih ⊢;rw[List.takeWhile_cons_of_pos (h z Zu),Ze,Ze,ih]
theorem grp_law:∀(f:Nat) (L pre:List PRec),Strict (pre++L)->(∀a∈pre,∀b∈L,cmpK a b<0)->∀g∈grpF f L,∃x xs,g=x::xs/\(pre++L).filter (P x)=g/\run x g=g.length/\x∈L
 | 0,_,_,_,_,g,hg=>by simp[grpF] at hg
 | f+1,[],_,_,_,g,hg=>by simp[grpF] at hg
 | f+1,x::l,pre,hs,hp,g,hg=>by
  have hsl:Strict (x::l):=(List.pairwise_append.1 hs).2.1;have hk:∀y∈x::l,cmpK x y<=0:=fun y hy=>by
   rcases List.mem_cons.1 hy with rfl|hy
   ·have:=cmpK_cm.refl y;omega
   ·exact cmp_le_key (by have:=(List.pairwise_cons.1 hsl).1 y hy;omega)
  obtain⟨h1,h2⟩:=run_split x hsl hk;obtain⟨m,hm⟩:∃m,run x (x::l)=m:=⟨_,rfl⟩;have hmp:0<m:=by rw[<-hm];exact run_pos x l
  rw[hm] at h1 h2;have hg':g=(x::l).take m\/g∈grpF f ((x::l).drop m):=by
   have:grpF (f+1) (x::l)=(x::l).take m::grpF f ((x::l).drop m):=by rw[<-hm];rfl
   rw[this] at hg;exact List.mem_cons.1 hg
  rcases hg' with rfl|hg'
  ·obtain⟨k,rfl⟩:∃k,m=k+1:=⟨m-1,by omega⟩
   refine⟨x,l.take k,by rw[List.take_succ_cons],?_,?_,Zu⟩
   ·rw[List.filter_append,h1,(List.filter_eq_nil_iff).2,Zm]
    intro a ha hpa;have h3:=hp a ha x Zu;have h4:=cmpK_zero.2 hpa;have h5:=cmpK_cm.anti x a;omega
   ·refine run_all fun z hz=>?_
    rw[<-h1] at hz;exact (List.mem_filter.1 hz).2
  ·have hpl:pre++x::l=(pre++(x::l).take m)++(x::l).drop m:=by rw[List.append_assoc,List.take_append_drop]
   obtain⟨y,ys,e1,e2,e3,e4⟩:=grp_law f ((x::l).drop m) (pre++(x::l).take m) (by rw[<-hpl];exact hs) (fun a ha b hb=>by
    rcases List.mem_append.1 ha with ha|ha
    ·exact hp a ha b (List.mem_of_mem_drop hb)
    ·have h3:=h2 b hb
     rw[<-h1] at ha;have h4:=cmpK_zero.2 (List.mem_filter.1 ha).2;have h5:=(cmpK_cm.left (a:=x) (b:=a) h4 b);have h6:=(cmpK_cm.left (a:=x) (b:=a) h4 b).1 (by omega)
     have h7:cmpK a b≠0:=fun e=>by
      have h8:=cmpK_cm.zero h4 e;omega
     omega) g hg'
   exact⟨y,ys,e1,by rw[hpl];exact e2,e3,List.mem_of_mem_drop e4⟩
theorem compactUpTo_mem {α:Type} [Inhabited α] [DecidableEq α] (d:Array α):∀(m j:Nat),j<m->d[j]!∈Lib.compactUpTo d m
 | 0,_,h=>by omega
 | m+1,j,h=>by
  rw[Lib.compactUpTo_succ];by_cases hj:j<m
  ·exact List.mem_append_left _ (compactUpTo_mem d m j hj)
  ·obtain rfl:j=m:=by omega
   by_cases hk:Lib.keeps d j=true
   ·rw[if_pos hk];simp
   ·have h0:¬(j=0\/d[j]!≠d[j-1]!):=by simpa[Lib.keeps] using hk
    have h1:j≠0:=fun e=>h0 (.inl e)
    have h2:d[j]! = d[j-1]!:=Classical.byContradiction fun e=>h0 (.inr e)
    rw[h2];exact List.mem_append_left _ (compactUpTo_mem d j (j-1) (by omega))
theorem compact_mem {zs:List Int} {z:Int} (h:z∈zs):z∈Lib.compact zs:=by
 obtain⟨j,hj,rfl⟩:=List.mem_iff_getElem.1 h;have:=compactUpTo_mem zs.toArray zs.length j hj
 rw[getElem!_pos zs.toArray j (by simpa using hj)] at this
 simpa[Lib.compact] using this
theorem grp_found {l:List PRec} {g:List PRec} (h:g∈grpF (canon l).length (canon l)):∃x xs,g=x::xs/\mine l x.owner x.type=g/\run x g=g.length/\x.type∈types l x.owner:=by
 obtain⟨x,xs,rfl,h2,h3,h4⟩:=grp_law _ (canon l) [] (canon_of l).strict (by simp) g h
 refine⟨x,xs,rfl,?_,h3,?_⟩
 ·unfold mine
  rw[canon_filter (Q_inv _ _)];exact h2
 ·obtain⟨y,hy,e,_⟩:=(canon_of l).some x h4
  unfold types;refine compact_mem (List.mem_mergeSort.2 (List.mem_map.2 ⟨y,List.mem_filter.2 ⟨hy,?_⟩,(cmp_type e).symm⟩));unfold Nm.same;rw[cmp_owner e];simp
end Rs
theorem grpE_flat {w:World}:∀(f:Nat) (l:List (El w)),l.length<=f->(grpE f l).flatten=l
 | 0,l,h=>by
  have:l=[]:=List.length_eq_zero_iff.1 (by omega)
  subst this;rfl
 | f+1,[],_=>rfl
 | f+1,x::l,h=>by
  show (_::grpE f _).flatten=_;have hp:=run_posE x l;rw[List.flatten_cons,grpE_flat f _ (by rw[List.length_drop,Ze];simp only[Ze] at h;omega),List.take_append_drop]
theorem grp_flat {w:World} (l:List (El w)):(grp l).flatten=l:=grpE_flat _ _ (Zh _)
end
section
theorem ttl_snoc (x:Rc.PRec) (l:List Rc.PRec) (z:Rc.PRec):Rs.ttl x (l++[z])=min (Rs.ttl x l) z.ttl:=by
 unfold Rs.ttl;rw[List.foldl_append];rfl
def TyKept (e:TypeId) (W W':World):Prop:=∀(k:Nat) (c:Array Value) (f:Nat × Nat),W.heap[k]? = some (Obj.cells c e f)->W'.heap[k]? = some (Obj.cells c e f)
theorem TyKept.trans {e:TypeId} {A B C:World} (h:TyKept e A B) (k:TyKept e B C):TyKept e A C:=fun i c f hi=>k i c f (h i c f hi)
theorem TyKept.below {e:TypeId} {W W':World} (h:Below W.heap.size W W'):TyKept e W W':=fun k _c _f hk=>(h.block k (Array.getElem?_eq_some_iff.1 hk).1).trans hk
theorem TyKept.grown {e t:TypeId} {W W':World} {row:Option Nat} (h:W.grownBy W' row) (hr:∀g,row=some g->∃c f,W.heap[g]? = some (.cells c t f)) (hne:t≠e):TyKept e W W':=fun k c f hk=>by
 refine (h.block k (Array.getElem?_eq_some_iff.1 hk).1 (fun e'=>?_)).trans hk
 obtain⟨c',f',h1⟩:=hr k e'.symm;rw[h1] at hk;cases hk;exact hne rfl
theorem TyKept.set {e t:TypeId} {W:World} {b o:Nat} (u:Value) (h:∃c f,W.heap[b]? = some (.cells c t f)) (hne:t≠e):TyKept e W (W.setCell ⟨b,o,none⟩ u):=fun k c f hk=>by
 refine (Below.heap_setCell _ _ _ _ (fun e'=>?_)).trans hk
 obtain⟨c',f',h1⟩:=h;have e':k=b:=e';subst e';rw[h1] at hk;cases hk;exact hne rfl
def RSetT {w:World} (cs:List Value) (k:List (El w)) (W:World):Prop :=
 SetC cs k W/\∀po t tt od n cd,cs=[po,t,tt,.slice od n cd]->∀a,od=some a->∃cur f,W.heap[a.block]? = some (.cells cur 117 f)
theorem RSetT.keep {w:World} {cs:List Value} {k:List (El w)} {W W':World} (h:RSetT cs k W) (hk:TyKept 117 W W'):RSetT cs k W':=by
 obtain⟨⟨x,xs,po,no,qo,od,cd,h1,h2,h3,h4⟩,h5⟩:=h;refine⟨⟨x,xs,po,no,qo,od,cd,h1,h2,h3,?_⟩,fun po t tt od n cd e a ha=>?_⟩
 ·obtain⟨o',cap',e0,d1,d2,d3,d4⟩:=h4
  refine⟨o',cap',e0,d1,d2,d3,fun j hj=>?_⟩
  obtain⟨a,ha,hc⟩:=d4 j hj;cases e0;obtain⟨cur,f,hb⟩:=h5 _ _ _ _ _ _ h2 a ha;refine⟨a,ha,?_⟩;rw[<-hc];exact World.cell?_of_block (by rw[add_block,hb];exact hk _ _ _ hb)
 ·obtain⟨cur,f,hb⟩:=h5 _ _ _ _ _ _ e a ha
  exact⟨cur,f,hk _ _ _ hb⟩
def RSM {w:World} (w1:World) (vx:Value) (gs:List (List (El w))) (W:World):Prop :=
 ∃css:List (List Value),css.length=gs.length/\Row (fun g=>w1.heap.size<=g) 146 4 vx gs.length css.flatten W/\∀i (h:i<css.length) (h':i<gs.length),RSetT css[i] gs[i] W
theorem RSM.below {w w1:World} {vx:Value} {gs:List (List (El w))} {W W':World} (h:RSM w1 vx gs W) (hb:Below W.heap.size W W'):RSM w1 vx gs W':=by
 obtain⟨css,h1,h2,h3⟩:=h;exact⟨css,h1,h2.below hb,fun i hi hi'=>(h3 i hi hi').keep (.below hb)⟩
theorem RSM.form {w w1:World} {vx:Value} {gs:List (List (El w))} {W:World} (h:RSM w1 vx gs W):∃o cap,vx=.slice o gs.length cap/\gs.length<=cap/\cap<=9223372036854775807:=by
 obtain⟨css,h1,⟨⟨_,ho⟩,_⟩,h3⟩:=h;rcases ho with⟨h1,h2⟩|⟨g',cap',cur,h1,_,_,h3,h4,_⟩
 ·exact⟨none,0,by rw[h1,h2],by omega,by omega⟩
 ·unfold maxLen at h4;exact⟨_,_,h1,by omega,by omega⟩
theorem RSM.rd {w w1:World} {vx:Value} {gs:List (List (El w))} {W:World} (h:RSM w1 vx gs W):SetsRd vx gs W:=by
 obtain⟨css,h1,h2,h3⟩:=h;refine⟨css,Row.grd (by rw[h1];exact h2) (fun c hc=>?_),h1,fun i hi hi'=>(h3 i hi hi').1⟩
 obtain⟨i,hi,rfl⟩:=List.getElem_of_mem hc;exact (h3 i hi (by omega)).1.ok
theorem RSM.push {w w1:World} {v':Value} {gs:List (List (El w))} {css:List (List Value)} {cs:List Value} {k:List (El w)} {W W':World} (hl:css.length=gs.length) (hrow:Row (fun g=>w1.heap.size<=g) 146 4 v' (gs.length+1) (css++[cs]).flatten W') (he:∀i (h:i<css.length) (h':i<gs.length),RSetT css[i] gs[i] W) (hk:TyKept 117 W W') (hx:RSetT cs k W'):RSM w1 v' (gs++[k]) W':=by
 refine⟨css++[cs],by simp[hl],by rw[Zb];exact hrow,fun i hi hi'=>?_⟩
 by_cases h:i<gs.length
 ·rw[Zt (by omega),Zt h]
  exact (he i (by omega) h).keep hk
 ·have hi':i<gs.length+1:=by simpa using hi'
  have e:i=gs.length:=by omega
  rw[Zs (by omega),Zs (by omega)]
  simpa[e,hl] using hx
theorem RSM.last {w w1:World} {vx:Value} {gs:List (List (El w))} {h:El w} {t:List (El w)} {W:World} (hm:RSM w1 vx (gs++[h::t]) W):∃css g cx po no qo od cd,vx=.slice (some ⟨g,0,none⟩) (gs.length+1) cx/\w1.heap.size<=g/\css.length=gs.length/\(∀c∈css,c.length=4)/\Row (fun g=>w1.heap.size<=g) 146 4 vx (gs.length+1) (css++[[.slice po no qo,.int .i64 h.1.2.type,.int .u32 ((Rs.ttl h.1.2 (plE (h::t)):Nat):Int),.slice od (t.length+1) cd]]).flatten W/\(∀i (h:i<css.length) (h':i<gs.length),RSetT css[i] gs[i] W)/\RSetT [.slice po no qo,.int .i64 h.1.2.type,.int .u32 ((Rs.ttl h.1.2 (plE (h::t)):Nat):Int),.slice od (t.length+1) cd] (h::t) W/\Rd (.slice po no qo) h.1.2.owner w/\DatsRd (.slice od (t.length+1) cd) (h::t) W:=by
 obtain⟨css,h1,h2,h3⟩:=hm;rw[Zb] at h1 h2;simp only[Ze,Zg,Nat.zero_add] at h1 h2;have hne:css≠[]:=by rintro rfl;simp at h1
 obtain⟨css',cs,rfl⟩:∃a b,css=a++[b]:=⟨css.dropLast,css.getLast hne,(List.dropLast_concat_getLast hne).symm⟩;have hl:css'.length=gs.length:=by simpa using h1
 obtain⟨g,cx,e⟩:=h2.some_block (by omega)
 have hlast:=h3 gs.length (by simp[hl]) (by simp)
 rw[Zs (by omega),Zs (by omega)] at hlast
 simp only[hl,Nat.sub_self,List.getElem_cons_zero] at hlast;have hall:∀i (h:i<css'.length) (h':i<gs.length),RSetT css'[i] gs[i] W:=fun i hi hi'=>by
  have:=h3 i (by simp;omega) (by simp;omega)
  rwa [Zt hi,Zt hi'] at this
 have hlast':=hlast;obtain⟨⟨x,xs,po,no,qo,od,cd,e1,e2,e3,e4⟩,h5⟩:=hlast';cases e1;subst e2;refine⟨css',g,cx,po,no,qo,od,cd,e,h2.2 g (by rw[e];rfl),hl,fun c hc=>?_,h2,hall,hlast,e3,e4⟩
 obtain⟨i,hi,rfl⟩:=List.getElem_of_mem hc;exact (hall i hi (by omega)).1.ok.1
def RSetsR {w:World} (l:List (El w)) (w0:World) (e:Ending) (w':World):Prop :=
 ∃(c:List (El w)) (v':Value),plE c=Rc.canon (plE l)/\c.length<=l.length/\e=.returned v'/\SetsRd v' (grp c) w'/\Below w0.heap.size w0 w'
end
section

end
section
def SetAt {w:World} (_gs:List (List (El w))) (ga:Addr) (w1:World) (i:Nat) (g:List (El w)):Prop :=
 ∃x xs po no qo od cd,g=x::xs/\Rd (.slice po no qo) x.1.2.owner w/\DatsRd (.slice od g.length cd) g w1 /\
  ∀W',Below w1.heap.size w1 W'->W'.cell? (ga.add (i*4))=some (.slice po no qo)/\W'.cell? ⟨(ga.add (i*4)).block,(ga.add (i*4)).off+1,none⟩=some (.int .i64 x.1.2.type) /\
   W'.cell? ⟨(ga.add (i*4)).block,(ga.add (i*4)).off+2,none⟩=some (.int .u32 ((Rs.ttl x.1.2 (plE g):Nat):Int))/\W'.cell? ⟨(ga.add (i*4)).block,(ga.add (i*4)).off+3,none⟩=some (.slice od g.length cd)
theorem SetsRd.at {w:World} {o:Option Addr} {n cap:Nat} {gs:List (List (El w))} {w1:World} (h:SetsRd (.slice o n cap) gs w1) (i:Nat) (hi:i<gs.length):∃ga,o=some ga/\SetAt gs ga w1 i gs[i]:=by
 obtain⟨css,hg,hl,hs⟩:=h;have hi':i<css.length:=by omega
 obtain⟨ga,rfl,_⟩:=hg.at (by decide) i hi'
 obtain⟨x,xs,po,no,qo,od,cd,e1,e2,e3,e4⟩:=hs i hi' hi;refine⟨ga,rfl,x,xs,po,no,qo,od,cd,e1,e3,e4,fun W' hW=>?_⟩
 obtain⟨a,ha,q0,q1⟩:=(hg.below hW).at (by decide) i hi'
 cases ha;simp only[e2] at q0 q1;exact⟨q0,q1 1 (by decide) (by decide),q1 2 (by decide) (by decide),q1 3 (by decide) (by decide)⟩
theorem SetsRd.form {w:World} {v:Value} {gs:List (List (El w))} {w1:World} (h:SetsRd v gs w1):∃o cap,v=.slice o gs.length cap/\gs.length<=cap/\cap<=9223372036854775807:=by
 obtain⟨css,hg,hl,_⟩:=h;obtain⟨o,cap,h1,h2,h3⟩:=hg.form;exact⟨o,cap,by rw[h1,hl],by omega,h3⟩
def TrS (w:World) (e:Ending) (w':World):Prop:=e=.returned (.bool true)/\Below w.heap.size w w'
theorem DatsRd.off {w:World} {o:Option Addr} {n cap:Nat} {l:List (El w)} {W:World} (h:DatsRd (.slice o n cap) l W) (hn:0<n) {b:Nat} {c0 c1 c2 c3:Value} {t:TypeId} (hb:Blk b #[c0,c1,c2,c3] t W):∀a,o=some a->a.block≠b:=by
 rintro a rfl e;obtain⟨o',cap',e0,_,_,_,h5⟩:=h;cases e0;obtain⟨a',ha,hc⟩:=h5 4 (by rw[flat_len encD 5 encD_len];omega)
 cases ha;have:(a.add 4)=⟨b,a.off+4,none⟩:=by subst e;rfl
 rw[this,hb.cell] at hc;simp at hc
end
section
def hasKey {w:World} (o:List (List UInt8)) (t:Int):List (El w)->Bool
 | []=>false
 | x::_=>(x.1.2.type == t)&&Nm.same x.1.2.owner o
def ROfV {w:World} (ks:List (List (El w))) (o:List (List UInt8)) (t:Int) (v:Value) (ok:Bool) (W:World):Prop :=
 match ks.find? (hasKey o t) with
 | none=>v=.agg #[.slice none 0 0,.int .i64 0,.int .u32 0,.slice none 0 0]/\ok=false
 | some k=>∃cs,v=.agg cs.toArray/\SetC cs k W/\ok=true
def ROfR {w:World} (l:List (El w)) (o:List (List UInt8)) (t:Int) (w0:World) (e:Ending) (w':World):Prop :=
 ∃(c:List (El w)) (v:Value) (ok:Bool),plE c=Rc.canon (plE l)/\c.length<=l.length/\e=.returned (.tuple #[v,.bool ok])/\ROfV (grp c) o t v ok w'/\Below w0.heap.size w0 w'
theorem mem_flat_len {α:Type} {k:List α}:∀{L:List (List α)},k∈L->k.length<=L.flatten.length
 | x::L,h=>by
  rw[List.flatten_cons,Zb];rcases List.mem_cons.1 h with rfl|h
  ·omega
  ·have:=mem_flat_len h;omega
theorem grp_mem_bound {w:World} {c:List (El w)} {k:List (El w)} (h:k∈grp c):k.length<=c.length:=by
 have h2:=mem_flat_len h;rw[grp_flat c] at h2;exact h2
theorem grp_len {w:World} (c:List (El w)):(grp c).length<=c.length:=by
 have:∀(n:Nat) (c:List (El w)),c.length<=n->(grp c).length<=c.length:=by
  intro n
  induction n with
  | zero=>intro c h;have:c=[]:=List.length_eq_zero_iff.1 (by omega);subst this;exact Zh _
  | succ n ih =>
   intro c h;cases c with
   | nil=>exact Zh _
   | cons x l =>
    have hp:=run_posE x l;rw[grp_cons,Ze];have:=ih ((x::l).drop (Rs.run x.1.2 (plE (x::l)))) (by rw[List.length_drop];simp only[Ze] at h ⊢;omega)
    rw[List.length_drop] at this;simp only[Ze] at this ⊢;omega
 exact this _ c (Zh _)
end
section
def ownK {w:World} (o:List (List UInt8)):List (El w)->Bool
 | []=>false
 | x::_=>Nm.same x.1.2.owner o
def typK {w:World}:List (El w)->Int
 | []=>0
 | x::_=>x.1.2.type
def tysK {w:World} (o:List (List UInt8)) (ks:List (List (El w))):List Int:=(ks.filter (ownK o)).map typK
def RTyR {w:World} (l:List (El w)) (o:List (List UInt8)) (w0:World) (e:Ending) (w':World):Prop :=
 ∃(c:List (El w)) (v':Value),plE c=Rc.canon (plE l)/\c.length<=l.length/\e=.returned v'/\Sl v' ((tysK o (grp c)).map I64) w'/\Below w0.heap.size w0 w'
end
section
theorem NmsRd.form {v:Value} {ns:List (List (List UInt8))} {W:World} (h:NmsRd v ns W):∃o cap,v=.slice o ns.length cap/\ns.length<=cap/\cap<=9223372036854775807:=by
 obtain⟨us,h1,h2,h3⟩:=h;obtain⟨o,cap,e,h4,h5⟩:=h2.form;exact⟨o,cap,by rw[e,h1],by omega,by unfold maxLen at h5;exact h5⟩
set_option maxHeartbeats 1000000 in
theorem isLen_any (v u:Value) (a b:List (List UInt8)) (w:World) (hv:Rd v a w) (hu:Rd u b w) (ha:a.length<=1000) (hb:b.length<=1000) :
  Calls Tryz.prog 42 #[v,u] w (Gives (.bool (a == b)) w):=by
 obtain⟨o,cap,rfl,h1,h2⟩:=hv.form;obtain⟨o',cap',rfl,h1',h2'⟩:=hu.form;have HC:=Hd hv.cells;have HD:=Hd hu.cells;have na:(a.length:Int)<=1000:=by omega
 have nb:(b.length:Int)<=1000:=by omega
 clear hv hu ha hb;have e0:∀wr W:World,W.heap=wr.heap->∀p,W.cell? p=wr.cell? p:=fun wr W h p=>by unfold World.cell?;rw[h]
 by_cases hab:a.length=b.length
 ·have hab':((a.length:Int) != b.length)=false:=by simp[hab]
  have HAB:=Hd hab;clear hab
  go_enter Tryz.func42,Tryz.ntmps42
  go_wp2
  go_loopw [5] (fun i wr=>∃k:Nat,Nm.isTo a b k/\i=.int .i64 k/\Below w.heap.size w wr) (fun i _=>a.length-(intOf i).toNat)
  case atStart=>exact⟨0,⟨by omega,fun j _ _ h=>by omega⟩,rfl,Below.refl _ _⟩
  case round =>
   obtain⟨k,hto,rfl,hb⟩:=hrel;by_cases hlt:k<a.length
   ·have hlt':k<b.length:=by have:=HAB.out;omega
    obtain⟨x,rfl,e1⟩:=HC.out _ hb k hlt;obtain⟨y,rfl,e2⟩:=HD.out _ hb k hlt';by_cases he:a[k]=b[k]
    ·have HT:=Hd (hto.step hlt hlt' he)
     rw[<-he] at e2;clear hto he;go_wp2_with fail
     go_quiet (fail)
     go_wp2_with fail
     exact⟨⟨k+1,HT.out,by go_num,below_drewN hb _⟩,by simp[intOf];omega⟩
    ·have HF:=Hd (Nm.is_not hlt hlt' he)
     have hs:(a[k] == b[k])=false:=by simpa using he
     clear hto he;go_wp2_with fail
     go_quiet (fail)
     go_wp2_with fail
     go_ret
     exact⟨by rw[HF.out];rfl,below_drewN hb _⟩
   ·have HF:=Hd (hto.done hlt HAB.out)
    go_wp2
    go_ret
    exact⟨by rw[HF.out];rfl,hb⟩
 ·have hab':((a.length:Int) != b.length)=true:=by simp;omega
  have HF:=Hd (Nm.is_len hab)
  go_enter Tryz.func42,Tryz.ntmps42
  go_wp2
  go_ret
  exact⟨by rw[HF.out];rfl,Below.refl _ _⟩
end
section
theorem zBox {w0 W1:World} {zo vr:Value} (h:w0.alloc (.cells #[zo,vr] 66)=W1):Below w0.heap.size w0 W1/\Blk w0.heap.size #[zo,vr] 66 W1:=by
 subst h;exact⟨Zr,Blk.new w0 _ _⟩
def RCutR (o:Zn.Nam) (L:List Rc.PRec) (n:Zn.Nam) (w:World) (e:Ending) (w':World):Prop :=
 ∃v,e=.returned (.tuple #[v,.bool (Zn.isCut o L n)])/\Rd v (Zn.cut o L n) w'/\Below w.heap.size w w'
end
section

end
section
structure PEg where
 kind:Int
 parent:List (List UInt8)
 child:List (List UInt8)
 host:List (List UInt8)
 server:Int
namespace Eg
def cmp (a b:PEg):Int:=Rc.orI (Nm.cmp a.parent b.parent) (Rc.orI (Nm.cmp a.child b.child) (Rc.orI (Nm.sgn a.kind b.kind) (Rc.orI (Nm.cmp a.host b.host) (Nm.sgn a.server b.server))))
theorem cmp_cm:Rc.Cm cmp:=(Rc.name_cm.pull PEg.parent).or ((Rc.name_cm.pull PEg.child).or ((Rc.sgn_cm.pull PEg.kind).or ((Rc.name_cm.pull PEg.host).or (Rc.sgn_cm.pull PEg.server))))
theorem cmp_first (a b:PEg):cmp a b=Rc.firstI [Nm.cmp a.parent b.parent,Nm.cmp a.child b.child,Nm.sgn a.kind b.kind,Nm.cmp a.host b.host,Nm.sgn a.server b.server]:=by
 have h0:∀x:Int,Rc.firstI [x]=x:=fun x=>by simp only[Rc.firstI];split<;>omega
 unfold cmp Rc.orI;rw[Rc.firstI,Rc.firstI,Rc.firstI,Rc.firstI,h0]
end Eg
def EgRd (cs:List Value) (f:PEg) (w:World):Prop:=∃vp vc vh,cs=[.int .i64 f.kind,vp,vc,vh,.int .i64 f.server]/\Rd vp f.parent w/\Rd vc f.child w/\Rd vh f.host w
theorem EgRd.below {cs:List Value} {f:PEg} {w w':World} (h:EgRd cs f w) (hb:Below w.heap.size w w'):EgRd cs f w':=by
 obtain⟨vp,vc,vh,e,h1,h2,h3⟩:=h;exact⟨vp,vc,vh,e,h1.below hb,h2.below hb,h3.below hb⟩
structure EB (f:PEg):Prop where
 parent:NB f.parent
 child:NB f.child
 host:NB f.host
theorem EgRd.cells {cs:List Value} {f:PEg} {w:World} (h:EgRd cs f w):∃p1 n1 c1 p2 n2 c2 p3 n3 c3,cs=[.int .i64 f.kind,.slice p1 n1 c1,.slice p2 n2 c2,.slice p3 n3 c3,.int .i64 f.server]/\Rd (.slice p1 n1 c1) f.parent w/\Rd (.slice p2 n2 c2) f.child w/\Rd (.slice p3 n3 c3) f.host w:=by
 obtain⟨vp,vc,vh,rfl,h1,h2,h3⟩:=h;obtain⟨o1,k1,rfl,_,_⟩:=h1.form;obtain⟨o2,k2,rfl,_,_⟩:=h2.form;obtain⟨o3,k3,rfl,_,_⟩:=h3.form;exact⟨_,_,_,_,_,_,_,_,_,rfl,h1,h2,h3⟩
set_option maxHeartbeats 4000000 in
theorem egCompare_any (va vb:List Value) (a b:PEg) (w:World) (ha:EgRd va a w) (hb:EgRd vb b w) (na:EB a) (nb:EB b) :
  Calls Tryz.prog 11 #[.agg va.toArray,.agg vb.toArray] w (Gives (.int .i64 (Eg.cmp a b)) w):=by
 obtain⟨p1,pn1,pc1,p2,pn2,pc2,p3,pn3,pc3,rfl,a1,a2,a3⟩:=ha.cells;obtain⟨r1,rn1,rc1,r2,rn2,rc2,r3,rn3,rc3,rfl,b1,b2,b3⟩:=hb.cells;obtain⟨z1,hz1⟩:=Zq (Nm.cmp a.parent b.parent);obtain⟨z2,hz2⟩:=Zq (Nm.cmp a.child b.child);obtain⟨z3,hz3⟩:=Zq (Nm.sgn a.kind b.kind);obtain⟨z4,hz4⟩:=Zq (Nm.cmp a.host b.host);obtain⟨z5,hz5⟩:=Zq (Nm.sgn a.server b.server);have hr:=Eg.cmp_first a b;rw[hz1,hz2,hz3,hz4,hz5] at hr;have HR:=Hd hr;have HZ3:=Hd hz3;have HZ5:=Hd hz5;have HC1:Hid (∀W',Below w.heap.size w W'->Calls Tryz.prog 34 #[.slice p1 pn1 pc1,.slice r1 rn1 rc1] W' (Gives (.int .i64 z1) W')):=fun W' hW=>by
  have h:=nCompare_any _ _ a.parent b.parent W' (a1.below hW) (b1.below hW) na.parent nb.parent;rw[hz1] at h;exact h
 have HC2:Hid (∀W',Below w.heap.size w W'->Calls Tryz.prog 34 #[.slice p2 pn2 pc2,.slice r2 rn2 rc2] W' (Gives (.int .i64 z2) W')):=fun W' hW=>by
  have h:=nCompare_any _ _ a.child b.child W' (a2.below hW) (b2.below hW) na.child nb.child;rw[hz2] at h;exact h
 have HC4:Hid (∀W',Below w.heap.size w W'->Calls Tryz.prog 34 #[.slice p3 pn3 pc3,.slice r3 rn3 rc3] W' (Gives (.int .i64 z4) W')):=fun W' hW=>by
  have h:=nCompare_any _ _ a.host b.host W' (a3.below hW) (b3.below hW) na.host nb.host;rw[hz4] at h;exact h
 have H2:=two_boxes w #[.int .i64 a.kind,.slice p1 pn1 pc1,.slice p2 pn2 pc2,.slice p3 pn3 pc3,.int .i64 a.server] #[.int .i64 b.kind,.slice r1 rn1 rc1,.slice r2 rn2 rc2,.slice r3 rn3 rc3,.int .i64 b.server] 45 45;have HTB:=Hd H2;clear a1 a2 a3 b1 b2 b3 ha hb na nb hr hz1 hz2 hz3 hz4 hz5 H2;refine (zF (n:=0)).1 ?_;refine callsIn_of_wp Tryz.func11 rfl trivial ?_ rfl;simp only[Tryz.ntmps11,Zo,Ze,Zg,Nat.reduceAdd,Nat.reduceSub,Zi,Zj,Zk,Zl,Zm,Zp];gi_wp2_with fail
 refine Z8 (List.range 28) (Cs [(⟨w.heap.size,0,none⟩,Value.int .i64 a.kind),(⟨w.heap.size,1,none⟩,.slice p1 pn1 pc1),(⟨w.heap.size,2,none⟩,.slice p2 pn2 pc2),(⟨w.heap.size,3,none⟩,.slice p3 pn3 pc3),(⟨w.heap.size,4,none⟩,.int .i64 a.server),(⟨w.heap.size+1,0,none⟩,.int .i64 b.kind),(⟨w.heap.size+1,1,none⟩,.slice r1 rn1 rc1),(⟨w.heap.size+1,2,none⟩,.slice r2 rn2 rc2),(⟨w.heap.size+1,3,none⟩,.slice r3 rn3 rc3),(⟨w.heap.size+1,4,none⟩,.int .i64 b.server)]) 28 rfl (by kernel_rfl) ?_
 intro w' hw';have HK:Hid (Blk w.heap.size #[.int .i64 a.kind,.slice p1 pn1 pc1,.slice p2 pn2 pc2,.slice p3 pn3 pc3,.int .i64 a.server] 45 w'/\Blk (w.heap.size+1) #[.int .i64 b.kind,.slice r1 rn1 rc1,.slice r2 rn2 rc2,.slice r3 rn3 rc3,.int .i64 b.server] 45 w'):=by subst hw';exact HTB.out
 have hb:Below w.heap.size w w':=by subst hw';exact ((Zr).alloc (by simp) _).drew
 have HCS:Hid (∀W',Below w'.heap.size w' W'->Cs [(⟨w.heap.size,0,none⟩,Value.int .i64 a.kind),(⟨w.heap.size,1,none⟩,.slice p1 pn1 pc1),(⟨w.heap.size,2,none⟩,.slice p2 pn2 pc2),(⟨w.heap.size,3,none⟩,.slice p3 pn3 pc3),(⟨w.heap.size,4,none⟩,.int .i64 a.server),(⟨w.heap.size+1,0,none⟩,.int .i64 b.kind),(⟨w.heap.size+1,1,none⟩,.slice r1 rn1 rc1),(⟨w.heap.size+1,2,none⟩,.slice r2 rn2 rc2),(⟨w.heap.size+1,3,none⟩,.slice r3 rn3 rc3),(⟨w.heap.size+1,4,none⟩,.int .i64 b.server)] W'):=fun W' hW=>⟨(HK.out.1.below hW).cell 0,(HK.out.1.below hW).cell 1,(HK.out.1.below hW).cell 2,(HK.out.1.below hW).cell 3,(HK.out.1.below hW).cell 4,(HK.out.2.below hW).cell 0,(HK.out.2.below hW).cell 1,(HK.out.2.below hW).cell 2,(HK.out.2.below hW).cell 3,(HK.out.2.below hW).cell 4,trivial⟩
 have hS:=HCS.out w' (Below.refl _ _);have HB:=Hd hb;clear hw' HTB HK hb;refine tA 0 hS ?_;refine tA 1 hS ?_;refine tA 2 hS ?_;refine tA 3 hS ?_;refine tA 5 hS ?_;refine tA 6 hS ?_;refine tA 7 hS ?_;refine tA 8 hS ?_;refine tA 10 hS ?_;refine tA 11 hS ?_;refine tA 12 hS ?_;refine tA 13 hS ?_;refine tA 15 hS ?_;refine tA 16 hS ?_;refine tA 17 hS ?_;refine tA 18 hS ?_;refine tA 20 hS ?_;refine tA 21 hS ?_;refine tA 22 hS ?_;refine tA 23 hS ?_;simp only[Act.put,Za,Zd,Zc];clear hS;refine oneH 4 (by rfl) (by kernel_rfl) (fun K hK=>?_)
 gi_wp2_with (gi_at_call 34;refine (callsIn_wide.2 (HC1.out w' HB.out)).mono ?_;rintro e w2 ⟨rfl,b2⟩)
 have HB2:=Hd (Z5 HB.out b2);have HD2:=Hd b2;refine hK _ _ (fun _=>HCS.out w2 HD2.out) ?_
 clear hK K b2;refine oneH 9 (by rfl) (by kernel_rfl) (fun K hK=>?_)
 gi_wp2_with (gi_at_call 34;refine (callsIn_wide.2 (HC2.out w2 HB2.out)).mono ?_;rintro e w3 ⟨rfl,b2⟩)
 have HB3:=Hd (Z5 HB2.out b2);have HD3:=Hd (Z5 HD2.out b2);refine hK _ _ (fun _=>HCS.out w3 HD3.out) ?_
 clear hK K b2;refine oneH 14 (by rfl) (by kernel_rfl) (fun K hK=>?_)
 gi_wp2_with (gi_at_call 35;refine (callsIn_wide.2 (cmpInt_any _ _ _)).mono ?_;rintro e w1 ⟨rfl,rfl⟩;rw[HZ3.out])
 refine hK _ _ (fun _=>HCS.out w3 HD3.out) ?_
 clear hK K;refine oneH 19 (by rfl) (by kernel_rfl) (fun K hK=>?_)
 gi_wp2_with (gi_at_call 34;refine (callsIn_wide.2 (HC4.out w3 HB3.out)).mono ?_;rintro e w4 ⟨rfl,b2⟩)
 have HB4:=Hd (Z5 HB3.out b2);have HD4:=Hd (Z5 HD3.out b2);refine hK _ _ (fun _=>HCS.out w4 HD4.out) ?_
 clear hK K b2;refine oneH 24 (by rfl) (by kernel_rfl) (fun K hK=>?_)
 gi_wp2_with (gi_at_call 35;refine (callsIn_wide.2 (cmpInt_any _ _ _)).mono ?_;rintro e w1 ⟨rfl,rfl⟩;rw[HZ5.out])
 refine hK _ _ (fun _=>HCS.out w4 HD4.out) ?_
 clear hK K;have hsl:=Sl.built w4 ([z1,z2,z3,z4,z5].map fun n:Int=>Value.int .i64 n) 3 (by simp;unfold maxLen;omega)
 have hb5:=HB4.out.alloc HB4.out.size (.cells ([z1,z2,z3,z4,z5].map fun n:Int=>Value.int .i64 n).toArray 3)
 have hb6:Below w4.heap.size w4 _:=(Below.refl w4.heap.size w4).alloc (Zh _) (.cells ([z1,z2,z3,z4,z5].map fun n:Int=>Value.int .i64 n).toArray 3)
 refine oneH 25 (by rfl) (by kernel_rfl) (fun K hK=>?_)
 gi_wp2_with fail
 refine hK _ _ (fun _=>HCS.out _ (Z5 HD4.out hb6)) ?_
 clear hK K;refine oneH 26 (by rfl) (by kernel_rfl) (fun K hK=>?_)
 gi_wp2_with (gi_at_call 33;refine (callsIn_wide.2 (cmpOr_any _ [z1,z2,z3,z4,z5] _ hsl (by simp))).mono ?_;rintro e w6 ⟨rfl,rfl⟩;rw[<-HR.out])
 refine hK _ _ (fun _=>HCS.out _ (Z5 HD4.out hb6)) ?_
 clear hK K;refine oneH 27 (by rfl) (by kernel_rfl) (fun K hK=>?_)
 gi_wp2_with fail
 refine hK _ _ (fun _=>HCS.out _ (Z5 HD4.out hb6)) ?_
 clear hK K;refine Z9 (by kernel_rfl) ?_
 gi_wp2_with fail
 go_ret
 exact⟨rfl,hb5⟩
end
section
namespace Ed
section
variable {α:Type} [Inhabited α] {enc:α->List Value} {k:Nat} {w0:World} {blk off:Nat}
set_option maxHeartbeats 4000000 in
theorem zA {n:Nat} (g:SG enc k w0 blk off n) (aE:∀w,(isAgg 45).run Tryz.prog w=.ok true w) (zE:∀w,(Go.sizeOf 45).run Tryz.prog w=.ok k w) (hn:n<=1000000) (cap:Nat) (vf:Value)
  (P X M Y Q:List α) (a b c:Nat) (hl:(P++(X++(M++(Y++Q)))).length=n) (hxy:X.length=Y.length) (ha:P.length=a) (hb:P.length+X.length+M.length=b) (hc:X.length=c)
  (W:World) (hs:SL enc k w0 blk off (P++(X++(M++(Y++Q)))) W) :
  Calls Tryz.prog 144 #[.slice (some ⟨blk,off,none⟩) n cap,.int .i64 a,.int .i64 b,.int .i64 c,vf] W fun e w'=>e=.returned (.tuple #[])/\SL enc k w0 blk off (P++(Y++(M++(X++Q)))) w':=by
 have mixed:Tryz.prog.follows .mixedOrders=true:=by kernel_rfl
 have AA:=Hd (And.intro ha (And.intro hb hc));have HL:=Hd hl;have HXY:=Hd hxy;have HG:=Hd g;have han:(a:Int)+c<=n:=by simp only[Zb] at hl;omega
 have hbn:(b:Int)+c<=n:=by simp only[Zb] at hl;omega
 have hnn:(n:Int)<=1000000:=by omega
 clear ha hb hc hl hxy hn g
 go_enter Tryz.func144,Tryz.ntmps144
 go_wp2
 go_loopw [10] (fun i wr=>∃(X1 X2 Y1 Y2:List α),Hid (X=X1++X2/\Y=Y1++Y2/\X1.length=Y1.length)/\i=.int .i64 (X1.length:Nat)/\SL enc k w0 blk off (P++((Y1++X2)++(M++((X1++Y2)++Q)))) wr) (fun i _=>c-(intOf i).toNat)
 case atStart=>exact⟨[],X,[],Y,Hd ⟨rfl,rfl,rfl⟩,rfl,hs⟩
 case round =>
  obtain⟨X1,X2,Y1,Y2,HH,rfl,hs1⟩:=hrel;rcases X2 with _|⟨x,X2⟩
  ·have hlt:¬((X1.length:Int)<(c:Int)):=by
    have h1:=HH.out.1;have h2:=AA.out.2.2;rw[<-h2,h1,List.append_nil];omega
   have HR:Hid (SL enc k w0 blk off (P++(Y++(M++(X++Q)))) wr):=by
    obtain⟨h1,h2,h3⟩:=HH.out;have h4:=HXY.out;have hY2:Y2=[]:=by
     apply List.length_eq_zero_iff.1
     have:=congrArg List.length h1
     have:=congrArg List.length h2
     simp only[Zb,Zg] at *;omega
    show SL _ _ _ _ _ _ _;rw[h1,h2,hY2];rw[hY2] at hs1;simpa using hs1
   clear hs1;go_wp2
   go_end0
   exact⟨rfl,HR.out⟩
  ·rcases Y2 with _|⟨y,Y2⟩
   ·exfalso
    obtain⟨h1,h2,h3⟩:=HH.out;have h4:=HXY.out;have:=congrArg List.length h1
    have:=congrArg List.length h2
    simp only[Zb,Ze,Zg] at *;omega
   ·obtain⟨i,hi⟩:=Zq X1.length
    rw[hi];have hs2:SL enc k w0 blk off ((P++Y1)++x::((X2++(M++X1))++y::(Y2++Q))) wr:=by simpa using hs1
    obtain⟨u,hu⟩:∃u,u=(P++Y1).length:=⟨_,rfl⟩;obtain⟨v,hv⟩:∃v,v=(P++Y1).length+1+(X2++(M++X1)).length:=⟨_,rfl⟩;have nums:u=a+i/\v=b+i/\i<c/\((P++Y1)++x::((X2++(M++X1))++y::(Y2++Q))).length=n:=by
     obtain⟨h1,h2,h3⟩:=HH.out;obtain⟨a1,a2,a3⟩:=AA.out;have h5:=congrArg List.length h1;have h6:=congrArg List.length h2;have h7:=HL.out;simp only[Zb,Ze] at *;omega
    obtain⟨nu,nv,ni,nl⟩:=nums;have w1:IntKind.i64.wrap ((a:Int)+i)=(u:Int):=by rw[IntWalk.i64_in _ (by omega)];omega
    have w2:IntKind.i64.wrap ((b:Int)+i)=(v:Int):=by rw[IntWalk.i64_in _ (by omega)];omega
    have w3:IntKind.i64.wrap ((i:Int)+1)=((i+1:Nat):Int):=by rw[IntWalk.i64_in _ (by omega)];omega
    have hiz:(i:Int)<(c:Int):=by omega
    have bu:(u:Int)<n:=by omega
    have bv:(v:Int)<n:=by omega
    have e1:((P++Y1)++x::((X2++(M++X1))++y::(Y2++Q)))[u]'(by omega)=x:=by simp[hu]
    have e2:((P++Y1)++x::((X2++(M++X1))++y::(Y2++Q)))[v]'(by omega)=y:=by
     have h0:(P++Y1)++x::((X2++(M++X1))++y::(Y2++Q))=((P++Y1)++x::(X2++(M++X1)))++y::(Y2++Q):=by simp
     have h1:v=((P++Y1)++x::(X2++(M++X1))).length:=by rw[hv];simp only[Zb,Ze];omega
     simp only[h0,h1];simp
    have l1:=hs2.drew.load HG.out nl Tryz.prog u (by omega)
    have l2:=hs2.drew.load HG.out nl Tryz.prog v (by omega)
    have s1:=hs2.st1 HG.out nl Tryz.prog u (by omega) y
    have s2:=hs2.st2 HG.out nl Tryz.prog u v (by omega) (by omega) y x
    rw[e1] at l1;rw[e2] at l2;have HS:Hid (SL enc k w0 blk off (P++((Y1++[y])++(X2++(M++((X1++[x])++(Y2++Q)))))) ((wr.drew.setCells blk (off+u*k) (enc y)).setCells blk (off+v*k) (enc x))):=by
     have:=hs2.swapped HG.out
     rw[<-hv,<-hu] at this;show SL _ _ _ _ _ _ _;have e:(P++Y1)++y::((X2++(M++X1))++x::(Y2++Q))=P++((Y1++[y])++(X2++(M++((X1++[x])++(Y2++Q))))):=by simp
     rwa [<-e]
    have HN:=Hd (And.intro nu (And.intro nv (And.intro ni hi)));have kx:(enc x).length=k:=HG.out.hk x;have ky:(enc y).length=k:=HG.out.hk y;clear hs1 hs2 nu nv ni nl hu hv e1 e2 hi;obtain⟨cx,hcx⟩:∃cx,cx=enc x:=⟨_,rfl⟩;obtain⟨cy,hcy⟩:∃cy,cy=enc y:=⟨_,rfl⟩;rw[<-hcx] at l1 s2 kx;rw[<-hcy] at l2 s1 s2 ky;rw[<-hcx,<-hcy] at HS;clear hcx hcy;go_wp2_with fail
    go_big_region_o
    all_goals go_wp2
    refine⟨⟨X1++[x],X2,Y1++[y],Y2,?_,?_,?_⟩,?_⟩
    ·obtain⟨h1,h2,h3⟩:=HH.out
     exact⟨by rw[h1];simp,by rw[h2];simp,by simp[h3]⟩
    ·have:=HN.out.2.2.2
     rw[Zb,this];rfl
    ·simpa using HS.out
    ·have:=HN.out.2.2.1
     simp[intOf];omega
end
end Ed
end
end Go.Proofs.YtgmbefolgppmdaaGreat
