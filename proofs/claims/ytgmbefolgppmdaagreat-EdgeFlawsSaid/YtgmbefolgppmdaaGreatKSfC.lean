/- Sets of records: plain laws. -/
import Derived.Test.YtgmbefolgppmdaaGreatKSeW
import Derived.Test.YtgmbefolgppmdaaGreatKAli
import Derived.Test.YtgmbefolgppmdaaGreatKSgD
namespace Go.Proofs.YtgmbefolgppmdaaGreat
open Go.RowKit Go.Shelf Go.Sort
set_option maxRecDepth 100000
section
namespace Rs
open Rc
def cmpK (a b:PRec):Int:=orI (Nm.cmp a.owner b.owner) (Nm.sgn a.type b.type)
theorem cmpK_cm:Cm cmpK:=(name_cm.pull PRec.owner).or (sgn_cm.pull PRec.type)
theorem sgn_self (a:Int):Nm.sgn a a=0:=by unfold Nm.sgn;simp
theorem cmpK_zero {a b:PRec}:cmpK a b=0 ↔ P a b=true:=by
 unfold cmpK P;rw[orI_zero,Bool.and_eq_true,beq_iff_eq];have h:=Nm.cmp_zero a.owner b.owner;constructor
 ·rintro⟨h1,h2⟩
  refine⟨sgn_zero h2,?_⟩;rw[h1] at h;exact h.symm
 ·rintro⟨h1,h2⟩
  rw[h2] at h;exact⟨by simpa using h,by rw[h1];exact sgn_self _⟩
theorem cmp_key {a b:PRec}:cmp a b=orI (cmpK a b) (cmpD a b):=by
 unfold cmp cmpK orI;by_cases h:Nm.cmp a.owner b.owner=0<;>by_cases h2:Nm.sgn a.type b.type=0<;>simp[h,h2]
theorem cmp_le_key {a b:PRec} (h:cmp a b<=0):cmpK a b<=0:=by
 rw[cmp_key] at h;unfold orI at h;split at h<;>omega
def Inv (q:PRec->Bool):Prop:=∀a b,cmp a b=0->q a=q b
theorem Q_inv (o:List (List UInt8)) (t:Int):Inv (Q o t):=fun a b h=>by
 unfold Q Nm.same;rw[cmp_type h,cmp_owner h]
theorem put_cons (x y:PRec) (L:List PRec):put x (y::L)=if cmp y x<0 then y::put x L else if cmp y x=0 then (if x.ttl<y.ttl then { y with ttl:=x.ttl } else y)::L else x::y::L:=rfl
theorem put_ahead {x:PRec}:∀{L:List PRec},(∀y∈L,0<cmp y x)->put x L=x::L
 | [],_=>rfl
 | y::L,h=>by
  have:=h y Zu
  rw[put_cons,if_neg (by omega),if_neg (by omega)]
theorem put_filter {q:PRec->Bool} (hq:Inv q) (x:PRec):∀{L:List PRec},Strict L->(put x L).filter q=if q x then put x (L.filter q) else L.filter q
 | [],_=>by unfold put;by_cases h:q x=true<;>simp[h]
 | y::L,hs=>by
  have hs':=List.pairwise_cons.1 hs;rw[put_cons];split
  ·rename_i hlt
   rw[List.filter_cons,List.filter_cons,put_filter hq x hs'.2];by_cases hx:q x=true<;>by_cases hy:q y=true<;>simp only[hx,hy,if_true,if_false,Bool.false_eq_true]
   rw[put_cons,if_pos hlt]
  ·split
   ·rename_i hnl h0
    have hyx:=hq y x h0;have hy':∀z:PRec,(z=y\/z={ y with ttl:=x.ttl })->q z=q x:=fun z hz=>by
     rcases hz with rfl|rfl
     ·exact hyx
     ·rw[<-hyx];exact hq _ _ (cmp_cm.refl y)
    by_cases hx:q x=true
    ·rw[List.filter_cons,hy' _ (by split<;>simp),if_pos hx,if_pos hx,List.filter_cons,hyx,if_pos hx,put_cons,if_neg hnl,if_pos h0]
    ·rw[List.filter_cons,hy' _ (by split<;>simp),if_neg hx,if_neg hx,List.filter_cons,hyx,if_neg hx]
   ·rename_i hnl h0
    by_cases hx:q x=true
    ·rw[List.filter_cons,if_pos hx,if_pos hx,put_ahead]
     intro z hz;have hzm:=(List.mem_filter.1 hz).1;have ha:=cmp_cm.anti y x;rcases List.mem_cons.1 hzm with rfl|hzm
     ·omega
     ·have h1:=hs'.1 z hzm
      have h2:=cmp_cm.lt_le (a:=x) (b:=y) (c:=z) (by omega) (by omega)
      have h3:=cmp_cm.anti x z;omega
    ·rw[List.filter_cons,if_neg hx,if_neg hx]
theorem canon_filter {q:PRec->Bool} (hq:Inv q) (l:List PRec):canon (l.filter q)=(canon l).filter q:=by
 suffices H:∀n (l:List PRec),l.length=n->canon (l.filter q)=(canon l).filter q from H _ l rfl
 intro n
 induction n with
 | zero=>intro l hl;obtain rfl:=List.length_eq_zero_iff.1 hl;rfl
 | succ n ih =>
  intro l hl;obtain⟨l',x,rfl⟩:∃l' x,l=l'++[x]:=by
   rcases List.eq_nil_or_concat l with h|⟨l',x,h⟩
   ·rw[h] at hl;simp at hl
   ·exact⟨l',x,by rw[h,List.concat_eq_append]⟩
  have ih':=ih l' (by simpa using hl)
  rw[canon_eq (l'++[x]),refCanon_snoc,<-canon_eq,put_filter hq x (canon_of l').strict,List.filter_append];by_cases hx:q x=true
  ·rw[if_pos hx,<-ih',List.filter_cons_of_pos hx,List.filter_nil,canon_eq,refCanon_snoc,<-canon_eq]
  ·rw[if_neg hx,<-ih',List.filter_cons_of_neg hx,List.filter_nil,List.append_nil]
theorem run_split (x:PRec):∀{l:List PRec},Strict l->(∀y∈l,cmpK x y<=0)->l.filter (P x)=l.take (run x l)/\∀z∈l.drop (run x l),cmpK x z<0
 | [],_,_=>⟨rfl,by simp⟩
 | y::l,hs,hk=>by
  have hs':=List.pairwise_cons.1 hs;have ih:=run_split x hs'.2 (fun z hz=>hk z (Zv _ hz))
  by_cases hp:P x y=true
  ·have hr:run x (y::l)=run x l+1:=by unfold run;rw[List.takeWhile_cons_of_pos hp];rfl
   rw[hr,List.filter_cons_of_pos hp,List.take_succ_cons,List.drop_succ_cons,ih.1];exact⟨rfl,ih.2⟩
  ·have hr:run x (y::l)=0:=by unfold run;rw[List.takeWhile_cons_of_neg hp];rfl
   have hlt:∀z∈y::l,cmpK x z<0:=by
    have h0:cmpK x y<0:=by
     have:=hk y Zu
     have hne:cmpK x y≠0:=fun e=>hp (cmpK_zero.1 e)
     omega
    intro z hz;rcases List.mem_cons.1 hz with rfl|hz
    ·exact h0
    ·exact cmpK_cm.lt_le h0 (cmp_le_key (by have:=hs'.1 z hz;omega))
   rw[hr];refine⟨?_,by simpa using hlt⟩
   rw[List.take_zero,List.filter_eq_nil_iff];intro z hz hpz;have:=hlt z hz
   have:=cmpK_zero.2 hpz
   omega
theorem run_all {x:PRec}:∀{g:List PRec},(∀z∈g,P x z=true)->run x g=g.length
 | [],_=>rfl
 | z::g,h=>by
  have ih:=run_all (x:=x) (g:=g) (fun y hy=>h y (Zv _ hy))
  unfold run at ih ⊢;rw[List.takeWhile_cons_of_pos (h z Zu),Ze,Ze,ih]
theorem grp_law:∀(f:Nat) (L pre:List PRec),Strict (pre++L)->(∀a∈pre,∀b∈L,cmpK a b<0)->∀g∈grpF f L,∃x xs,g=x::xs/\(pre++L).filter (P x)=g/\run x g=g.length/\x∈L
 | 0,_,_,_,_,g,hg=>by simp[grpF] at hg
 | f+1,[],_,_,_,g,hg=>by simp[grpF] at hg
 | f+1,x::l,pre,hs,hp,g,hg=>by
  have hsl:Strict (x::l):=(List.pairwise_append.1 hs).2.1;have hk:∀y∈x::l,cmpK x y<=0:=fun y hy=>by
   rcases List.mem_cons.1 hy with rfl|hy
   ·have:=cmpK_cm.refl y;omega
   ·exact cmp_le_key (by have:=(List.pairwise_cons.1 hsl).1 y hy;omega)
  obtain⟨h1,h2⟩:=run_split x hsl hk;obtain⟨m,hm⟩:∃m,run x (x::l)=m:=⟨_,rfl⟩;have hmp:0<m:=by rw[<-hm];exact run_pos x l
  rw[hm] at h1 h2;have hg':g=(x::l).take m\/g∈grpF f ((x::l).drop m):=by
   have:grpF (f+1) (x::l)=(x::l).take m::grpF f ((x::l).drop m):=by rw[<-hm];rfl
   rw[this] at hg;exact List.mem_cons.1 hg
  rcases hg' with rfl|hg'
  ·obtain⟨k,rfl⟩:∃k,m=k+1:=⟨m-1,by omega⟩
   refine⟨x,l.take k,by rw[List.take_succ_cons],?_,?_,Zu⟩
   ·rw[List.filter_append,h1,(List.filter_eq_nil_iff).2,Zm]
    intro a ha hpa;have h3:=hp a ha x Zu;have h4:=cmpK_zero.2 hpa;have h5:=cmpK_cm.anti x a;omega
   ·refine run_all fun z hz=>?_
    rw[<-h1] at hz;exact (List.mem_filter.1 hz).2
  ·have hpl:pre++x::l=(pre++(x::l).take m)++(x::l).drop m:=by rw[List.append_assoc,List.take_append_drop]
   obtain⟨y,ys,e1,e2,e3,e4⟩:=grp_law f ((x::l).drop m) (pre++(x::l).take m) (by rw[<-hpl];exact hs) (fun a ha b hb=>by
    rcases List.mem_append.1 ha with ha|ha
    ·exact hp a ha b (List.mem_of_mem_drop hb)
    ·have h3:=h2 b hb
     rw[<-h1] at ha;have h4:=cmpK_zero.2 (List.mem_filter.1 ha).2;have h5:=(cmpK_cm.left (a:=x) (b:=a) h4 b);have h6:=(cmpK_cm.left (a:=x) (b:=a) h4 b).1 (by omega)
     have h7:cmpK a b≠0:=fun e=>by
      have h8:=cmpK_cm.zero h4 e;omega
     omega) g hg'
   exact⟨y,ys,e1,by rw[hpl];exact e2,e3,List.mem_of_mem_drop e4⟩
theorem compactUpTo_mem {α:Type} [Inhabited α] [DecidableEq α] (d:Array α):∀(m j:Nat),j<m->d[j]!∈Lib.compactUpTo d m
 | 0,_,h=>by omega
 | m+1,j,h=>by
  rw[Lib.compactUpTo_succ];by_cases hj:j<m
  ·exact List.mem_append_left _ (compactUpTo_mem d m j hj)
  ·obtain rfl:j=m:=by omega
   by_cases hk:Lib.keeps d j=true
   ·rw[if_pos hk];simp
   ·have h0:¬(j=0\/d[j]!≠d[j-1]!):=by simpa[Lib.keeps] using hk
    have h1:j≠0:=fun e=>h0 (.inl e)
    have h2:d[j]! = d[j-1]!:=Classical.byContradiction fun e=>h0 (.inr e)
    rw[h2];exact List.mem_append_left _ (compactUpTo_mem d j (j-1) (by omega))
theorem compact_mem {zs:List Int} {z:Int} (h:z∈zs):z∈Lib.compact zs:=by
 obtain⟨j,hj,rfl⟩:=List.mem_iff_getElem.1 h;have:=compactUpTo_mem zs.toArray zs.length j hj
 rw[getElem!_pos zs.toArray j (by simpa using hj)] at this
 simpa[Lib.compact] using this
theorem grp_found {l:List PRec} {g:List PRec} (h:g∈grpF (canon l).length (canon l)):∃x xs,g=x::xs/\mine l x.owner x.type=g/\run x g=g.length/\x.type∈types l x.owner:=by
 obtain⟨x,xs,rfl,h2,h3,h4⟩:=grp_law _ (canon l) [] (canon_of l).strict (by simp) g h
 refine⟨x,xs,rfl,?_,h3,?_⟩
 ·unfold mine
  rw[canon_filter (Q_inv _ _)];exact h2
 ·obtain⟨y,hy,e,_⟩:=(canon_of l).some x h4
  unfold types;refine compact_mem (List.mem_mergeSort.2 (List.mem_map.2 ⟨y,List.mem_filter.2 ⟨hy,?_⟩,(cmp_type e).symm⟩));unfold Nm.same;rw[cmp_owner e];simp
end Rs
theorem grpE_flat {w:World}:∀(f:Nat) (l:List (El w)),l.length<=f->(grpE f l).flatten=l
 | 0,l,h=>by
  have:l=[]:=List.length_eq_zero_iff.1 (by omega)
  subst this;rfl
 | f+1,[],_=>rfl
 | f+1,x::l,h=>by
  show (_::grpE f _).flatten=_;have hp:=run_posE x l;rw[List.flatten_cons,grpE_flat f _ (by rw[List.length_drop,Ze];simp only[Ze] at h;omega),List.take_append_drop]
theorem grp_flat {w:World} (l:List (El w)):(grp l).flatten=l:=grpE_flat _ _ (Zh _)
end
section
theorem run_snoc_all (x:Rc.PRec):∀(l:List Rc.PRec) (z:Rc.PRec),Rs.run x l=l.length->Rs.run x (l++[z])=if Rs.P x z then l.length+1 else l.length
 | [],z,_=>by
  unfold Rs.run;by_cases h:Rs.P x z=true<;>simp[h]
 | y::l,z,h=>by
  by_cases hy:Rs.P x y=true
  ·have h1:Rs.run x l=l.length:=by
    unfold Rs.run at h ⊢;rw[List.takeWhile_cons_of_pos hy] at h;simpa using h
   have ih:=run_snoc_all x l z h1;unfold Rs.run at ih ⊢;rw[Zp,List.takeWhile_cons_of_pos hy,Ze,ih];split<;>simp
  ·unfold Rs.run at h
   rw[List.takeWhile_cons_of_neg hy] at h;simp at h
theorem run_snoc_lt (x:Rc.PRec):∀(l:List Rc.PRec) (z:Rc.PRec),Rs.run x l<l.length->Rs.run x (l++[z])=Rs.run x l
 | [],z,h=>by simp at h
 | y::l,z,h=>by
  unfold Rs.run at h ⊢;by_cases hy:Rs.P x y=true
  ·rw[List.takeWhile_cons_of_pos hy] at h
   have ih:=run_snoc_lt x l z (by unfold Rs.run;simpa using h)
   unfold Rs.run at ih;rw[Zp,List.takeWhile_cons_of_pos hy,List.takeWhile_cons_of_pos hy,Ze,Ze,ih]
  ·rw[Zp,List.takeWhile_cons_of_neg hy,List.takeWhile_cons_of_neg hy]
theorem grp_snoc {w:World} (x:El w):∀(n:Nat) (L:List (El w)),L.length<=n->L≠[]->∃gs h t,grp L=gs++[h::t]/\grp (L++[x])=if Rs.P h.1.2 x.1.2 then gs++[(h::t)++[x]] else gs++[h::t]++[[x]]
 | _,[],_,h=>absurd rfl h
 | 0,y::l,h,_=>by simp at h
 | n+1,y::l,hn,_=>by
  have hle:=run_leE y l;have hpos:=run_posE y l;have hp:plE ((y::l)++[x])=plE (y::l)++[x.1.2]:=plE_snoc _ _;by_cases hr:Rs.run y.1.2 (plE (y::l))=(y::l).length
  ·refine⟨[],y,l,?_,?_⟩
   ·rw[grp_cons,hr,List.take_length,List.drop_length];rfl
   ·have h1:=run_snoc_all y.1.2 (plE (y::l)) x.1.2 (by rw[hr,zH])
    rw[zH] at h1;show grp (y::(l++[x]))=_;rw[grp_cons];have h2:Rs.run y.1.2 (plE (y::(l++[x])))=if Rs.P y.1.2 x.1.2 then (y::l).length+1 else (y::l).length:=by rw[<-h1,<-hp];rfl
    rw[h2];split
    ·rw[List.take_of_length_le (by simp),Zz (by simp)];rfl
    ·rw[show y::(l++[x])=(y::l)++[x] from rfl,List.take_left' rfl,List.drop_left' rfl,show ([x]:List (El w))=x::[] from rfl,grp_cons]
     have h3:Rs.run x.1.2 (plE [x])=1:=by
      have a:=run_leE x [];have b:=run_posE x [];simp at a;omega
     rw[h3];rfl
  ·have hlt:Rs.run y.1.2 (plE (y::l))<(y::l).length:=by omega
   have h1:=run_snoc_lt y.1.2 (plE (y::l)) x.1.2 (by rw[zH];exact hlt)
   have h2:Rs.run y.1.2 (plE (y::(l++[x])))=Rs.run y.1.2 (plE (y::l)):=by rw[<-h1,<-hp];rfl
   obtain⟨gs,h,t,e1,e2⟩:=grp_snoc x n ((y::l).drop (Rs.run y.1.2 (plE (y::l)))) (by rw[List.length_drop];omega) (by
    intro e;have:=congrArg List.length e
    rw[List.length_drop] at this;simp only[Zg] at this;omega)
   refine⟨(y::l).take (Rs.run y.1.2 (plE (y::l)))::gs,h,t,?_,?_⟩
   ·rw[grp_cons,e1];rfl
   ·show grp (y::(l++[x]))=_
    rw[grp_cons,h2,show y::(l++[x])=(y::l)++[x] from rfl,List.take_append_of_le_length hle,List.drop_append_of_le_length hle,e2]
    split<;>simp
theorem grp_one {w:World} (x:El w):grp [x]=[[x]]:=by
 rw[grp_cons];have a:=run_leE x [];have b:=run_posE x [];have h3:Rs.run x.1.2 (plE [x])=1:=by simp at a;omega
 rw[h3];rfl
theorem ttl_snoc (x:Rc.PRec) (l:List Rc.PRec) (z:Rc.PRec):Rs.ttl x (l++[z])=min (Rs.ttl x l) z.ttl:=by
 unfold Rs.ttl;rw[List.foldl_append];rfl
def TyKept (e:TypeId) (W W':World):Prop:=∀(k:Nat) (c:Array Value) (f:Nat × Nat),W.heap[k]? = some (Obj.cells c e f)->W'.heap[k]? = some (Obj.cells c e f)
theorem TyKept.trans {e:TypeId} {A B C:World} (h:TyKept e A B) (k:TyKept e B C):TyKept e A C:=fun i c f hi=>k i c f (h i c f hi)
theorem TyKept.below {e:TypeId} {W W':World} (h:Below W.heap.size W W'):TyKept e W W':=fun k _c _f hk=>(h.block k (Array.getElem?_eq_some_iff.1 hk).1).trans hk
theorem TyKept.grown {e t:TypeId} {W W':World} {row:Option Nat} (h:W.grownBy W' row) (hr:∀g,row=some g->∃c f,W.heap[g]? = some (.cells c t f)) (hne:t≠e):TyKept e W W':=fun k c f hk=>by
 refine (h.block k (Array.getElem?_eq_some_iff.1 hk).1 (fun e'=>?_)).trans hk
 obtain⟨c',f',h1⟩:=hr k e'.symm;rw[h1] at hk;cases hk;exact hne rfl
theorem TyKept.set {e t:TypeId} {W:World} {b o:Nat} (u:Value) (h:∃c f,W.heap[b]? = some (.cells c t f)) (hne:t≠e):TyKept e W (W.setCell ⟨b,o,none⟩ u):=fun k c f hk=>by
 refine (Below.heap_setCell _ _ _ _ (fun e'=>?_)).trans hk
 obtain⟨c',f',h1⟩:=h;have e':k=b:=e';subst e';rw[h1] at hk;cases hk;exact hne rfl
def RSetT {w:World} (cs:List Value) (k:List (El w)) (W:World):Prop :=
 SetC cs k W/\∀po t tt od n cd,cs=[po,t,tt,.slice od n cd]->∀a,od=some a->∃cur f,W.heap[a.block]? = some (.cells cur 117 f)
theorem RSetT.keep {w:World} {cs:List Value} {k:List (El w)} {W W':World} (h:RSetT cs k W) (hk:TyKept 117 W W'):RSetT cs k W':=by
 obtain⟨⟨x,xs,po,no,qo,od,cd,h1,h2,h3,h4⟩,h5⟩:=h;refine⟨⟨x,xs,po,no,qo,od,cd,h1,h2,h3,?_⟩,fun po t tt od n cd e a ha=>?_⟩
 ·obtain⟨o',cap',e0,d1,d2,d3,d4⟩:=h4
  refine⟨o',cap',e0,d1,d2,d3,fun j hj=>?_⟩
  obtain⟨a,ha,hc⟩:=d4 j hj;cases e0;obtain⟨cur,f,hb⟩:=h5 _ _ _ _ _ _ h2 a ha;refine⟨a,ha,?_⟩;rw[<-hc];exact World.cell?_of_block (by rw[add_block,hb];exact hk _ _ _ hb)
 ·obtain⟨cur,f,hb⟩:=h5 _ _ _ _ _ _ e a ha
  exact⟨cur,f,hk _ _ _ hb⟩
theorem info_rset:(Tryz.prog.info? 146).map (fun i=>(i.zero,i.size,i.bytes))=some (some (.agg #[.slice none 0 0,.int .i64 0,.int .u32 0,.slice none 0 0]),4,64):=by kernel_rfl
def RSM {w:World} (w1:World) (vx:Value) (gs:List (List (El w))) (W:World):Prop :=
 ∃css:List (List Value),css.length=gs.length/\Row (fun g=>w1.heap.size<=g) 146 4 vx gs.length css.flatten W/\∀i (h:i<css.length) (h':i<gs.length),RSetT css[i] gs[i] W
theorem RSM.below {w w1:World} {vx:Value} {gs:List (List (El w))} {W W':World} (h:RSM w1 vx gs W) (hb:Below W.heap.size W W'):RSM w1 vx gs W':=by
 obtain⟨css,h1,h2,h3⟩:=h;exact⟨css,h1,h2.below hb,fun i hi hi'=>(h3 i hi hi').keep (.below hb)⟩
theorem RSM.form {w w1:World} {vx:Value} {gs:List (List (El w))} {W:World} (h:RSM w1 vx gs W):∃o cap,vx=.slice o gs.length cap/\gs.length<=cap/\cap<=9223372036854775807:=by
 obtain⟨css,h1,⟨⟨_,ho⟩,_⟩,h3⟩:=h;rcases ho with⟨h1,h2⟩|⟨g',cap',cur,h1,_,_,h3,h4,_⟩
 ·exact⟨none,0,by rw[h1,h2],by omega,by omega⟩
 ·unfold maxLen at h4;exact⟨_,_,h1,by omega,by omega⟩
theorem RSM.rd {w w1:World} {vx:Value} {gs:List (List (El w))} {W:World} (h:RSM w1 vx gs W):SetsRd vx gs W:=by
 obtain⟨css,h1,h2,h3⟩:=h;refine⟨css,Row.grd (by rw[h1];exact h2) (fun c hc=>?_),h1,fun i hi hi'=>(h3 i hi hi').1⟩
 obtain⟨i,hi,rfl⟩:=List.getElem_of_mem hc;exact (h3 i hi (by omega)).1.ok
theorem RSM.push {w w1:World} {v':Value} {gs:List (List (El w))} {css:List (List Value)} {cs:List Value} {k:List (El w)} {W W':World} (hl:css.length=gs.length) (hrow:Row (fun g=>w1.heap.size<=g) 146 4 v' (gs.length+1) (css++[cs]).flatten W') (he:∀i (h:i<css.length) (h':i<gs.length),RSetT css[i] gs[i] W) (hk:TyKept 117 W W') (hx:RSetT cs k W'):RSM w1 v' (gs++[k]) W':=by
 refine⟨css++[cs],by simp[hl],by rw[Zb];exact hrow,fun i hi hi'=>?_⟩
 by_cases h:i<gs.length
 ·rw[Zt (by omega),Zt h]
  exact (he i (by omega) h).keep hk
 ·have hi':i<gs.length+1:=by simpa using hi'
  have e:i=gs.length:=by omega
  rw[Zs (by omega),Zs (by omega)]
  simpa[e,hl] using hx
theorem flat4_len:∀(css:List (List Value)),(∀c∈css,c.length=4)->css.flatten.length=css.length*4
 | [],_=>rfl
 | c::css,h=>by
  rw[List.flatten_cons,Zb,h c (by simp),flat4_len css (fun d hd=>h d (by simp[hd])),Ze];omega
theorem flat4_get (css:List (List Value)) (cs:List Value) (m j:Nat) (hm:css.length=m) (h:∀c∈css,c.length=4):(css++[cs]).flatten[m*4+j]? = cs[j]?:=by
 rw[List.flatten_append,List.getElem?_append_right (by rw[flat4_len css h];omega),flat4_len css h,hm]
 simp
theorem flat4_set (css:List (List Value)) (cs:List Value) (m j:Nat) (u:Value) (hm:css.length=m) (h:∀c∈css,c.length=4):(css++[cs]).flatten.set (m*4+j) u=(css++[cs.set j u]).flatten:=by
 rw[List.flatten_append,List.flatten_append,List.set_append_right _ _ (by rw[flat4_len css h];omega),flat4_len css h,hm]
 simp
theorem RSM.last {w w1:World} {vx:Value} {gs:List (List (El w))} {h:El w} {t:List (El w)} {W:World} (hm:RSM w1 vx (gs++[h::t]) W):∃css g cx po no qo od cd,vx=.slice (some ⟨g,0,none⟩) (gs.length+1) cx/\w1.heap.size<=g/\css.length=gs.length/\(∀c∈css,c.length=4)/\Row (fun g=>w1.heap.size<=g) 146 4 vx (gs.length+1) (css++[[.slice po no qo,.int .i64 h.1.2.type,.int .u32 ((Rs.ttl h.1.2 (plE (h::t)):Nat):Int),.slice od (t.length+1) cd]]).flatten W/\(∀i (h:i<css.length) (h':i<gs.length),RSetT css[i] gs[i] W)/\RSetT [.slice po no qo,.int .i64 h.1.2.type,.int .u32 ((Rs.ttl h.1.2 (plE (h::t)):Nat):Int),.slice od (t.length+1) cd] (h::t) W/\Rd (.slice po no qo) h.1.2.owner w/\DatsRd (.slice od (t.length+1) cd) (h::t) W:=by
 obtain⟨css,h1,h2,h3⟩:=hm;rw[Zb] at h1 h2;simp only[Ze,Zg,Nat.zero_add] at h1 h2;have hne:css≠[]:=by rintro rfl;simp at h1
 obtain⟨css',cs,rfl⟩:∃a b,css=a++[b]:=⟨css.dropLast,css.getLast hne,(List.dropLast_concat_getLast hne).symm⟩;have hl:css'.length=gs.length:=by simpa using h1
 obtain⟨g,cx,e⟩:=h2.some_block (by omega)
 have hlast:=h3 gs.length (by simp[hl]) (by simp)
 rw[Zs (by omega),Zs (by omega)] at hlast
 simp only[hl,Nat.sub_self,List.getElem_cons_zero] at hlast;have hall:∀i (h:i<css'.length) (h':i<gs.length),RSetT css'[i] gs[i] W:=fun i hi hi'=>by
  have:=h3 i (by simp;omega) (by simp;omega)
  rwa [Zt hi,Zt hi'] at this
 have hlast':=hlast;obtain⟨⟨x,xs,po,no,qo,od,cd,e1,e2,e3,e4⟩,h5⟩:=hlast';cases e1;subst e2;refine⟨css',g,cx,po,no,qo,od,cd,e,h2.2 g (by rw[e];rfl),hl,fun c hc=>?_,h2,hall,hlast,e3,e4⟩
 obtain⟨i,hi,rfl⟩:=List.getElem_of_mem hc;exact (hall i hi (by omega)).1.ok.1
def RSetsR {w:World} (l:List (El w)) (w0:World) (e:Ending) (w':World):Prop :=
 ∃(c:List (El w)) (v':Value),plE c=Rc.canon (plE l)/\c.length<=l.length/\e=.returned v'/\SetsRd v' (grp c) w'/\Below w0.heap.size w0 w'
end
end Go.Proofs.YtgmbefolgppmdaaGreat
