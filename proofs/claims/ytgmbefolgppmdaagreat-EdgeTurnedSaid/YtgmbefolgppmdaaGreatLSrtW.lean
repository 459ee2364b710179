/- A row of things, each of k cells, in one block: what a sort turns. -/
import Derived.Test.YtgmbefolgppmdaaGreatLSrtP
import Derived.Shelf.SlSortCmp.KitK
import Derived.Test.YtgmbefolgppmdaaGreatLAli
import Derived.Test.YtgmbefolgppmdaaGreatLBase
namespace Go.Proofs.YtgmbefolgppmdaaGreat
open Go.RowKit Go.Shelf Go.Sort
set_option maxRecDepth 100000
section
section
variable {α:Type} [Inhabited α] {enc:α->List Value} {k:Nat} {w0 W:World} {blk off:Nat} {l:List α}
def SL (enc:α->List Value) (k:Nat) (w0:World) (blk off:Nat) (l:List α) (W:World):Prop:=∃t,SWK enc k { w0 with drawn:=t } blk off l.toArray W
structure SG (enc:α->List Value) (k:Nat) (w0:World) (blk off n:Nat):Prop where
 hk:∀x,(enc x).length=k
 h1:∀x,∀v∈enc x,v.oneCell'=true
 hH:∃d0:Array α,d0.size=n/\HoldsK enc k w0 blk off d0
 hblk:blk<w0.heap.size
theorem World.ext' {a b:World} (h1:a.heap=b.heap) (h2:a.tape=b.tape) (h3:a.drawn=b.drawn) (h4:a.os=b.os) (h5:a.output=b.output):a=b:=by
 cases a;cases b;simp_all
theorem heap_more {a b:World} (hs:a.heap.size<=b.heap.size) (h:∀k,k<a.heap.size->b.heap[k]? = a.heap[k]?):b.heap=a.heap++b.heap.extract a.heap.size b.heap.size:=by
 refine Array.ext (by simp;omega) fun i h1 h2=>?_
 rw[Array.getElem_append];split
 ·rename_i hi
  have:=h i hi
  rw[Array.getElem?_eq_getElem h1,Array.getElem?_eq_getElem hi] at this;exact Option.some.inj this
 ·rw[Array.getElem_extract]
  congr 1;omega
theorem SL.below (h:SL enc k w0 blk off l W) {W':World} (hb:Below W.heap.size W W'):SL enc k w0 blk off l W':=by
 obtain⟨t,n,os,rfl⟩:=h;refine⟨W'.drawn,0,os++W'.heap.extract (sortWorldK enc k { w0 with drawn:=t } blk off n l.toArray os).heap.size W'.heap.size,?_⟩
 refine World.ext' ?_ hb.tape rfl hb.os hb.output;refine (heap_more hb.size hb.block).trans ?_;show _=(_++(_++_):Array Obj);rw[<-Array.append_assoc];rfl
theorem SL.drew (h:SL enc k w0 blk off l W):SL enc k w0 blk off l W.drew:=h.below (Below.refl _ W).drew
theorem SL.start {n:Nat} (_g:SG enc k w0 blk off n) (h:HoldsK enc k w0 blk off l.toArray):SL enc k w0 blk off l w0:=⟨w0.drawn,SWK.start h⟩
theorem SG.row {n:Nat} (g:SG enc k w0 blk off n) (t:Nat):∃d0:Array α,d0.size=n/\Go.Proofs.RowK enc k { w0 with drawn:=t } blk off d0:=by
 obtain⟨d0,h1,h2⟩:=g.hH;exact⟨d0,h1,g.hk,g.h1,h2,g.hblk⟩
theorem get_list {i:Nat} (h:i<l.length):l.toArray[i]! = l[i]:=by
 simp[h]
theorem SL.load (h:SL enc k w0 blk off l W) {n:Nat} (g:SG enc k w0 blk off n) (hn:l.length=n) (P:Program) (i:Nat) (hi:i<l.length) :
  Sem.run P (loadCellsFrom ⟨blk,off+i*k,none⟩ 0 k #[]) W=.ok (enc l[i]).toArray W:=by
 obtain⟨t,h⟩:=h;obtain⟨d0,e0,R⟩:=g.row t;have:=h.load R (by rw[e0];simpa using hn) P i (by simpa using hi)
 rwa [get_list hi] at this
theorem SL.st1 (h:SL enc k w0 blk off l W) {n:Nat} (g:SG enc k w0 blk off n) (hn:l.length=n) (P:Program) (i:Nat) (hi:i<l.length) (y:α) :
  Sem.run P (storeCells ⟨blk,off+i*k,none⟩ (enc y) 0) W.drew=.ok () (W.drew.setCells blk (off+i*k) (enc y)):=by
 obtain⟨t,h⟩:=h;obtain⟨d0,e0,R⟩:=g.row t;exact h.st1 R (by rw[e0];simpa using hn) P i (by simpa using hi) y
theorem SL.st2 (h:SL enc k w0 blk off l W) {n:Nat} (g:SG enc k w0 blk off n) (hn:l.length=n) (P:Program) (i j:Nat) (hi:i<l.length) (hj:j<l.length) (y x:α) :
  Sem.run P (storeCells ⟨blk,off+j*k,none⟩ (enc x) 0) (W.drew.setCells blk (off+i*k) (enc y))=.ok () ((W.drew.setCells blk (off+i*k) (enc y)).setCells blk (off+j*k) (enc x)):=by
 obtain⟨t,h⟩:=h;obtain⟨d0,e0,R⟩:=g.row t;exact h.st2 R (by rw[e0];simpa using hn) P i j (by simpa using hi) (by simpa using hj) y x
theorem swap_list {U V Z:List α} {x y:α}:swp (U++x::(V++y::Z)).toArray U.length (U.length+1+V.length)=(U++y::(V++x::Z)).toArray:=by
 have h1:(U++x::(V++y::Z)).toArray[U.length]! = x:=by simp
 have h2:(U++x::(V++y::Z)).toArray[U.length+1+V.length]! = y:=by
  have:(U++x::(V++y::Z))=(U++x::V)++y::Z:=by simp
  rw[this];have e:U.length+1+V.length=(U++x::V).length:=by simp;omega
  rw[e];simp
 unfold swp;rw[h1,h2];simp only[Za];congr 1
 rw[List.set_append_right _ _ (by omega),Nat.sub_self,Zc]
 rw[List.set_append_right _ _ (by omega),show U.length+1+V.length-U.length=V.length+1 by omega,Zd,List.set_append_right _ _ (by omega),Nat.sub_self,Zc]
theorem swap_list' {U V Z:List α} {x y:α}:swp (U++x::(V++y::Z)).toArray (U.length+1+V.length) U.length=(U++y::(V++x::Z)).toArray:=by
 have h1:(U++x::(V++y::Z)).toArray[U.length]! = x:=by simp
 have h2:(U++x::(V++y::Z)).toArray[U.length+1+V.length]! = y:=by
  have:(U++x::(V++y::Z))=(U++x::V)++y::Z:=by simp
  rw[this];have e:U.length+1+V.length=(U++x::V).length:=by simp;omega
  rw[e];simp
 unfold swp;rw[h1,h2];simp only[Za];congr 1
 rw[List.set_append_right _ _ (by omega),show U.length+1+V.length-U.length=V.length+1 by omega,Zd,List.set_append_right _ _ (by omega),Nat.sub_self,Zc]
 rw[List.set_append_right _ _ (by omega),Nat.sub_self,Zc]
theorem SL.swapped {U V Z:List α} {x y:α} (h:SL enc k w0 blk off (U++x::(V++y::Z)) W) {n:Nat} (g:SG enc k w0 blk off n) :
  SL enc k w0 blk off (U++y::(V++x::Z)) ((W.drew.setCells blk (off+U.length*k) (enc y)).setCells blk (off+(U.length+1+V.length)*k) (enc x)):=by
 obtain⟨t,h⟩:=h;obtain⟨d0,e0,R⟩:=g.row t;have:=h.swapped R U.length (U.length+1+V.length) (by simp) (by simp;omega)
 rw[swap_list] at this;have h1:(U++x::(V++y::Z)).toArray[U.length]! = x:=by simp
 have h2:(U++x::(V++y::Z)).toArray[U.length+1+V.length]! = y:=by
  have:(U++x::(V++y::Z))=(U++x::V)++y::Z:=by simp
  rw[this];have e:U.length+1+V.length=(U++x::V).length:=by simp;omega
  rw[e];simp
 rw[h1,h2] at this;exact⟨t,this⟩
theorem SL.swapped' {U V Z:List α} {x y:α} (h:SL enc k w0 blk off (U++x::(V++y::Z)) W) {n:Nat} (g:SG enc k w0 blk off n) :
  SL enc k w0 blk off (U++y::(V++x::Z)) ((W.drew.setCells blk (off+(U.length+1+V.length)*k) (enc x)).setCells blk (off+U.length*k) (enc y)):=by
 obtain⟨t,h⟩:=h;obtain⟨d0,e0,R⟩:=g.row t;have:=h.swapped R (U.length+1+V.length) U.length (by simp;omega) (by simp)
 rw[swap_list'] at this;have h1:(U++x::(V++y::Z)).toArray[U.length]! = x:=by simp
 have h2:(U++x::(V++y::Z)).toArray[U.length+1+V.length]! = y:=by
  have:(U++x::(V++y::Z))=(U++x::V)++y::Z:=by simp
  rw[this];have e:U.length+1+V.length=(U++x::V).length:=by simp;omega
  rw[e];simp
 rw[h1,h2] at this;exact⟨t,this⟩
theorem SL.grown (h:SL enc k w0 blk off l W):w0.grownBy W (some blk):=by
 obtain⟨t,h⟩:=h;have hle:w0.heap.size<=W.heap.size:=h.le;obtain⟨n,os,rfl⟩:=h;refine⟨rfl,rfl,rfl,hle,fun j hj hne=>?_⟩
 have hne':j≠blk:=fun e=>hne (by rw[e])
 show (_++os:Array Obj)[j]? = _;rw[Array.getElem?_append_left (by rw[size_putRowK];exact hj)]
 show (Array.modify _ _ _)[j]? = _;rw[Array.getElem?_modify,if_neg (fun e=>hne' e.symm)]
 rfl
end
end
section
section
variable {α:Type} [Inhabited α] {enc:α->List Value} {k:Nat} {w0:World} {blk off:Nat}
set_option maxHeartbeats 4000000 in
theorem zA {n:Nat} (g:SG enc k w0 blk off n) (aE:∀w,(isAgg 110).run Tryz.prog w=.ok true w) (zE:∀w,(Go.sizeOf 110).run Tryz.prog w=.ok k w) (hn:n<=1000000) (cap:Nat) (vf:Value)
  (P X M Y Q:List α) (a b c:Nat) (hl:(P++(X++(M++(Y++Q)))).length=n) (hxy:X.length=Y.length) (ha:P.length=a) (hb:P.length+X.length+M.length=b) (hc:X.length=c)
  (W:World) (hs:SL enc k w0 blk off (P++(X++(M++(Y++Q)))) W) :
  Calls Tryz.prog 146 #[.slice (some ⟨blk,off,none⟩) n cap,.int .i64 a,.int .i64 b,.int .i64 c,vf] W fun e w'=>e=.returned (.tuple #[])/\SL enc k w0 blk off (P++(Y++(M++(X++Q)))) w':=by
 have mixed:Tryz.prog.follows .mixedOrders=true:=by kernel_rfl
 have AA:=Hd (And.intro ha (And.intro hb hc));have HL:=Hd hl;have HXY:=Hd hxy;have HG:=Hd g;have han:(a:Int)+c<=n:=by simp only[Zb] at hl;omega
 have hbn:(b:Int)+c<=n:=by simp only[Zb] at hl;omega
 have hnn:(n:Int)<=1000000:=by omega
 clear ha hb hc hl hxy hn g
 go_enter Tryz.func146,Tryz.ntmps146
 go_wp2
 go_loopw [10] (fun i wr=>∃(X1 X2 Y1 Y2:List α),Hid (X=X1++X2/\Y=Y1++Y2/\X1.length=Y1.length)/\i=.int .i64 (X1.length:Nat)/\SL enc k w0 blk off (P++((Y1++X2)++(M++((X1++Y2)++Q)))) wr) (fun i _=>c-(intOf i).toNat)
 case atStart=>exact⟨[],X,[],Y,Hd ⟨rfl,rfl,rfl⟩,rfl,hs⟩
 case round =>
  obtain⟨X1,X2,Y1,Y2,HH,rfl,hs1⟩:=hrel;rcases X2 with _|⟨x,X2⟩
  ·have hlt:¬((X1.length:Int)<(c:Int)):=by
    have h1:=HH.out.1;have h2:=AA.out.2.2;rw[<-h2,h1,List.append_nil];omega
   have HR:Hid (SL enc k w0 blk off (P++(Y++(M++(X++Q)))) wr):=by
    obtain⟨h1,h2,h3⟩:=HH.out;have h4:=HXY.out;have hY2:Y2=[]:=by
     apply List.length_eq_zero_iff.1
     have:=congrArg List.length h1
     have:=congrArg List.length h2
     simp only[Zb,Zg] at *;omega
    show SL _ _ _ _ _ _ _;rw[h1,h2,hY2];rw[hY2] at hs1;simpa using hs1
   clear hs1;go_wp2
   go_end0
   exact⟨rfl,HR.out⟩
  ·rcases Y2 with _|⟨y,Y2⟩
   ·exfalso
    obtain⟨h1,h2,h3⟩:=HH.out;have h4:=HXY.out;have:=congrArg List.length h1
    have:=congrArg List.length h2
    simp only[Zb,Ze,Zg] at *;omega
   ·obtain⟨i,hi⟩:=Zq X1.length
    rw[hi];have hs2:SL enc k w0 blk off ((P++Y1)++x::((X2++(M++X1))++y::(Y2++Q))) wr:=by simpa using hs1
    obtain⟨u,hu⟩:∃u,u=(P++Y1).length:=⟨_,rfl⟩;obtain⟨v,hv⟩:∃v,v=(P++Y1).length+1+(X2++(M++X1)).length:=⟨_,rfl⟩;have nums:u=a+i/\v=b+i/\i<c/\((P++Y1)++x::((X2++(M++X1))++y::(Y2++Q))).length=n:=by
     obtain⟨h1,h2,h3⟩:=HH.out;obtain⟨a1,a2,a3⟩:=AA.out;have h5:=congrArg List.length h1;have h6:=congrArg List.length h2;have h7:=HL.out;simp only[Zb,Ze] at *;omega
    obtain⟨nu,nv,ni,nl⟩:=nums;have w1:IntKind.i64.wrap ((a:Int)+i)=(u:Int):=by rw[IntWalk.i64_in _ (by omega)];omega
    have w2:IntKind.i64.wrap ((b:Int)+i)=(v:Int):=by rw[IntWalk.i64_in _ (by omega)];omega
    have w3:IntKind.i64.wrap ((i:Int)+1)=((i+1:Nat):Int):=by rw[IntWalk.i64_in _ (by omega)];omega
    have hiz:(i:Int)<(c:Int):=by omega
    have bu:(u:Int)<n:=by omega
    have bv:(v:Int)<n:=by omega
    have e1:((P++Y1)++x::((X2++(M++X1))++y::(Y2++Q)))[u]'(by omega)=x:=by simp[hu]
    have e2:((P++Y1)++x::((X2++(M++X1))++y::(Y2++Q)))[v]'(by omega)=y:=by
     have h0:(P++Y1)++x::((X2++(M++X1))++y::(Y2++Q))=((P++Y1)++x::(X2++(M++X1)))++y::(Y2++Q):=by simp
     have h1:v=((P++Y1)++x::(X2++(M++X1))).length:=by rw[hv];simp only[Zb,Ze];omega
     simp only[h0,h1];simp
    have l1:=hs2.drew.load HG.out nl Tryz.prog u (by omega)
    have l2:=hs2.drew.load HG.out nl Tryz.prog v (by omega)
    have s1:=hs2.st1 HG.out nl Tryz.prog u (by omega) y
    have s2:=hs2.st2 HG.out nl Tryz.prog u v (by omega) (by omega) y x
    rw[e1] at l1;rw[e2] at l2;have HS:Hid (SL enc k w0 blk off (P++((Y1++[y])++(X2++(M++((X1++[x])++(Y2++Q)))))) ((wr.drew.setCells blk (off+u*k) (enc y)).setCells blk (off+v*k) (enc x))):=by
     have:=hs2.swapped HG.out
     rw[<-hv,<-hu] at this;show SL _ _ _ _ _ _ _;have e:(P++Y1)++y::((X2++(M++X1))++x::(Y2++Q))=P++((Y1++[y])++(X2++(M++((X1++[x])++(Y2++Q))))):=by simp
     rwa [<-e]
    have HN:=Hd (And.intro nu (And.intro nv (And.intro ni hi)));have kx:(enc x).length=k:=HG.out.hk x;have ky:(enc y).length=k:=HG.out.hk y;clear hs1 hs2 nu nv ni nl hu hv e1 e2 hi;obtain⟨cx,hcx⟩:∃cx,cx=enc x:=⟨_,rfl⟩;obtain⟨cy,hcy⟩:∃cy,cy=enc y:=⟨_,rfl⟩;rw[<-hcx] at l1 s2 kx;rw[<-hcy] at l2 s1 s2 ky;rw[<-hcx,<-hcy] at HS;clear hcx hcy;go_wp2_with fail
    go_big_region_o
    all_goals go_wp2
    refine⟨⟨X1++[x],X2,Y1++[y],Y2,?_,?_,?_⟩,?_⟩
    ·obtain⟨h1,h2,h3⟩:=HH.out
     exact⟨by rw[h1];simp,by rw[h2];simp,by simp[h3]⟩
    ·have:=HN.out.2.2.2
     rw[Zb,this];rfl
    ·simpa using HS.out
    ·have:=HN.out.2.2.1
     simp[intOf];omega
end
end
section
section
variable {α:Type} [Inhabited α] {enc:α->List Value} {k:Nat} {w0:World} {blk off:Nat}
set_option maxHeartbeats 4000000 in
theorem rotate_any {n:Nat} (g:SG enc k w0 blk off n) (aE:∀w,(isAgg 110).run Tryz.prog w=.ok true w) (zE:∀w,(Go.sizeOf 110).run Tryz.prog w=.ok k w) (hn:n<=1000000) (cap:Nat) (vf:Value)
  (P X Y Q:List α) (a m b:Nat) (hl:(P++(X++(Y++Q))).length=n) (ha:P.length=a) (hm:P.length+X.length=m) (hb:m+Y.length=b) (hX:0<X.length) (hY:0<Y.length)
  (W:World) (hs:SL enc k w0 blk off (P++(X++(Y++Q))) W) :
  Calls Tryz.prog 145 #[.slice (some ⟨blk,off,none⟩) n cap,.int .i64 a,.int .i64 m,.int .i64 b,vf] W fun e w'=>e=.returned (.tuple #[])/\SL enc k w0 blk off (P++(Y++(X++Q))) w':=by
 obtain⟨T,hT⟩:=Zq (P++(Y++(X++Q)));have HT:=Hd hT;have HG:=Hd g;have AE:=Hd aE;have ZE:=Hd zE;have HNN:=Hd hn;have nums:X.length=m-a/\Y.length=b-m/\b<=n/\a<m/\m<b:=by simp only[Zb] at hl;omega
 obtain⟨n1,n2,n3,n4,n5⟩:=nums;obtain⟨i0,hi0⟩:∃i0,i0=m-a:=⟨_,rfl⟩;obtain⟨j0,hj0⟩:∃j0,j0=b-m:=⟨_,rfl⟩;have w1:IntKind.i64.wrap ((m:Int)-a)=(i0:Int):=by rw[IntWalk.i64_in _ (by omega)];omega
 have w2:IntKind.i64.wrap ((b:Int)-m)=(j0:Int):=by rw[IntWalk.i64_in _ (by omega)];omega
 have N0:Hid (X.length=i0/\Y.length=j0/\P.length+i0=m/\0<i0/\0<j0/\m+j0<=n/\(P++(X++(Y++Q))).length=n):=by
  show _/\_;refine⟨by omega,by omega,by omega,by omega,by omega,by omega,hl⟩
 rw[hT];clear n1 n2 n3 n4 n5 hi0 hj0 hl ha hm hb hX hY hn g aE zE hT
 go_enter Tryz.func145,Tryz.ntmps145
 go_wp2
 go_loopw [10,11] (fun vi vj wr=>∃(i j:Nat) (P X Y Q:List α),vi=.int .i64 i/\vj=.int .i64 j/\Hid (X.length=i/\Y.length=j/\P.length+i=m/\0<i/\0<j/\m+j<=n/\(P++(X++(Y++Q))).length=n)/\Hid (P++(Y++(X++Q))=T)/\SL enc k w0 blk off (P++(X++(Y++Q))) wr) (fun vi vj _=>(intOf vi).toNat+(intOf vj).toNat)
 case atStart=>exact⟨i0,j0,P,X,Y,Q,rfl,rfl,N0,HT,hs⟩
 case round =>
  obtain⟨i,j,P,X,Y,Q,rfl,rfl,HN,HT,hs⟩:=hrel;obtain⟨p,hp⟩:∃p,p=P.length:=⟨_,rfl⟩;have w3:IntKind.i64.wrap ((m:Int)-i)=(p:Int):=by have:=HN.out;have:=HNN.out;rw[IntWalk.i64_in _ (by omega)];omega
  rcases Nat.lt_trichotomy i j with h|h|h
  ·have hne:((i:Int) != j)=true:=by simp;omega
   have hgt:¬((j:Int)<i):=by omega
   obtain⟨q,hq⟩:∃q,q=m+j:=⟨_,rfl⟩;obtain⟨r,hr⟩:∃r,r=m+j-i:=⟨_,rfl⟩;obtain⟨d,hd⟩:∃d,d=j-i:=⟨_,rfl⟩;have w4:IntKind.i64.wrap ((m:Int)+j)=(q:Int):=by have:=HN.out;have:=HNN.out;rw[IntWalk.i64_in _ (by omega)];omega
   have w5:IntKind.i64.wrap ((q:Int)-i)=(r:Int):=by have:=HN.out;have:=HNN.out;rw[IntWalk.i64_in _ (by omega)];omega
   have w6:IntKind.i64.wrap ((j:Int)-i)=(d:Int):=by have:=HN.out;have:=HNN.out;rw[IntWalk.i64_in _ (by omega)];omega
   have e0:Y=Y.take d++Y.drop d:=(List.take_append_drop _ _).symm;have l1:(Y.take d).length=d:=by have:=HN.out;rw[List.length_take];omega
   have l2:(Y.drop d).length=i:=by have:=HN.out;rw[List.length_drop];omega
   generalize Y.take d=Y1 at *
   generalize Y.drop d=Y2 at *
   have hl:=HN.out.2.2.2.2.2.2;rw[e0,List.append_assoc] at hs hl;have HE:=Hd e0;have HQ:=Hd (And.intro h (And.intro hq (And.intro hr (And.intro hd (And.intro l1 (And.intro l2 hp))))));have HC:=Hd (zA HG.out AE.out ZE.out HNN.out cap vf P X Y1 Y2 Q p r i hl (by have:=HN.out;omega) hp.symm (by have:=HN.out;omega) (by have:=HN.out;omega))
   clear w1 w2 h hq hr hd l1 l2 hp e0 hl;go_wp2_with fail
   refine (HC.out _ hs).mono ?_;rintro e wq ⟨rfl,hs'⟩;go_wp2_with fail
   refine⟨⟨i,d,P,Y2,Y1,X++Q,rfl,rfl,?_,?_,by simpa using hs'⟩,?_⟩
   ·obtain⟨h,hq,hr,hd,l1,l2,hp⟩:=HQ.out
    obtain⟨a1,a2,a3,a4,a5,a6,a7⟩:=HN.out;have:=HE.out
    show _/\_;refine⟨l2,l1,a3,a4,by omega,by omega,?_⟩
    rw[this] at a7;simp only[Zb] at a7 ⊢;omega
   ·have:=HE.out
    have h2:=HT.out;show _=_;rw[this] at h2;rw[<-h2];simp
   ·have:=HQ.out;have:=HN.out
    simp only[intOf,Int.toNat_natCast];omega
  ·have hne:((i:Int) != j)=false:=by simp;omega
   subst h;have HC:=Hd (zA HG.out AE.out ZE.out HNN.out cap vf P X [] Y Q p m i (by have:=HN.out;simpa using this.2.2.2.2.2.2) (by have:=HN.out;omega) hp.symm (by have:=HN.out;simp;omega) (by have:=HN.out;omega))
   clear w1 w2 hp;go_wp2_with fail
   refine (HC.out _ (by simpa using hs)).mono ?_
   rintro e wq ⟨rfl,hs'⟩;have HS:=Hd hs';clear hs';go_wp2_with fail
   go_end0
   refine⟨rfl,?_⟩;rw[<-HT.out];simpa using HS.out
  ·have hne:((i:Int) != j)=true:=by simp;omega
   have hgt:(j:Int)<i:=by omega
   obtain⟨d,hd⟩:∃d,d=i-j:=⟨_,rfl⟩;have w6:IntKind.i64.wrap ((i:Int)-j)=(d:Int):=by have:=HN.out;have:=HNN.out;rw[IntWalk.i64_in _ (by omega)];omega
   have e0:X=X.take j++X.drop j:=(List.take_append_drop _ _).symm;have l1:(X.take j).length=j:=by have:=HN.out;rw[List.length_take];omega
   have l2:(X.drop j).length=d:=by have:=HN.out;rw[List.length_drop];omega
   generalize X.take j=X1 at *
   generalize X.drop j=X2 at *
   have hl:=HN.out.2.2.2.2.2.2;rw[e0,List.append_assoc] at hs hl;have HE:=Hd e0;have HQ:=Hd (And.intro h (And.intro hd (And.intro l1 (And.intro l2 hp))));have HC:=Hd (zA HG.out AE.out ZE.out HNN.out cap vf P X1 X2 Y Q p m j hl (by have:=HN.out;omega) hp.symm (by have:=HN.out;omega) (by have:=HN.out;omega))
   clear w1 w2 h hd l1 l2 hp e0 hl;go_wp2_with fail
   refine (HC.out _ hs).mono ?_;rintro e wq ⟨rfl,hs'⟩;go_wp2_with fail
   refine⟨⟨d,j,P++Y,X2,X1,Q,rfl,rfl,?_,?_,by simpa using hs'⟩,?_⟩
   ·obtain⟨h,hd,l1,l2,hp⟩:=HQ.out
    obtain⟨a1,a2,a3,a4,a5,a6,a7⟩:=HN.out;have:=HE.out
    show _/\_;refine⟨l2,l1,by rw[Zb];omega,by omega,by omega,by omega,?_⟩
    rw[this] at a7;simp only[Zb] at a7 ⊢;omega
   ·have:=HE.out
    have h2:=HT.out;show _=_;rw[this] at h2;rw[<-h2];simp
   ·have:=HQ.out;have:=HN.out
    simp only[intOf,Int.toNat_natCast];omega
end
end
section
section
variable {α:Type} [Inhabited α] {enc:α->List Value} {k:Nat} {w0:World} {blk off:Nat}
def ltC (cf:α->α->Int) (x y:α):Bool:=decide (cf x y<0)
def CmpOk (gf:Nat) (enc:α->List Value) (k:Nat) (cf:α->α->Int) (w0:World) (blk off n:Nat):Prop :=
 ∀(W:World) (l:List α),SL enc k w0 blk off l W->l.length=n->∀x y:α,Calls Tryz.prog gf #[.agg (enc x).toArray,.agg (enc y).toArray] W fun e w'=>e=.returned (.int .i64 (cf x y))/\Below W.heap.size W w'
structure InSL (enc:α->List Value) (k:Nat) (w0:World) (blk off:Nat) (l:List α) where
 W:World
 h:SL enc k w0 blk off l W
theorem zK {P:Program} {id:Nat} {Q:Exit->Act->World->Prop} {a:Act} {w:World} {ops:List Oper} {l:List α} (hm:P.follows .mixedOrders=true) (hB:Region.lexB .any ops.toArray=true) (hs:SL enc k w0 blk off l w)
  (h:wpQuiet P ops.toArray (fun w'=>∃p:InSL enc k w0 blk off l,w'=p.W) (fun a'=>∀w',(∃p:InSL enc k w0 blk off l,w'=p.W)->Q .normal a' w') ops a):(Code.region id ops.toArray true).wp P Q a w :=
 wp_region_quiet (C:=fun w'=>∃p:InSL enc k w0 blk off l,w'=p.W) hm hB ⟨⟨w.drew,hs.drew⟩,rfl⟩ (by simpa using h)
theorem CmpOk.quiet {gf:Nat} {cf:α->α->Int} {n:Nat} (h:CmpOk gf enc k cf w0 blk off n) {l:List α} (hl:l.length=n) (x y:α) (p:InSL enc k w0 blk off l) :
  Calls Tryz.prog gf #[.agg (enc x).toArray,.agg (enc y).toArray] p.W fun e w'=>e=.returned (.int .i64 (cf x y))/\∃p':InSL enc k w0 blk off l,w'=p'.W :=
 (h p.W l p.h hl x y).mono fun _ w' ⟨he,hb⟩=>⟨he,⟨w',p.h.below hb⟩,rfl⟩
set_option maxHeartbeats 400000 in
theorem insertion_any {n:Nat} (g:SG enc k w0 blk off n) (aE:∀w,(isAgg 110).run Tryz.prog w=.ok true w) (zE:∀w,(Go.sizeOf 110).run Tryz.prog w=.ok k w) (hn:n<=1000000) (cap:Nat)
  (gf:Nat) (eg:∀args w,(callFunc gf args).run Tryz.prog w=.ok (.enter gf args) w) (cf:α->α->Int) (hC:CmpOk gf enc k cf w0 blk off n) (ho:Srt.Ord (ltC cf))
  (P X Q:List α) (a b:Nat) (hl:(P++(X++Q)).length=n) (ha:P.length=a) (hb:P.length+X.length=b)
  (W:World) (hs:SL enc k w0 blk off (P++(X++Q)) W) :
  Calls Tryz.prog 137 #[.slice (some ⟨blk,off,none⟩) n cap,.int .i64 a,.int .i64 b,.func (.func gf) #[] #[]] W fun e w'=>e=.returned (.tuple #[])/\SL enc k w0 blk off (P++(Srt.srt (ltC cf) X++Q)) w':=by
 have mixed:Tryz.prog.follows .mixedOrders=true:=by kernel_rfl
 have HG:=Hd g;have HO:=Hd ho;have HCC:=Hd hC;have HA:=Hd (And.intro ha hb);have HL:=Hd hl;have hbn:(b:Int)<=n:=by simp only[Zb] at hl;omega
 have hab:(a:Int)<=b:=by omega
 have hnn:(n:Int)<=1000000:=by omega
 have w1:IntKind.i64.wrap ((a:Int)+1)=((a+1:Nat):Int):=by rw[IntWalk.i64_in _ (by omega)];omega
 clear g ho hC ha hb hl hn
 go_enter Tryz.func137,Tryz.ntmps137
 go_wp2
 go_loopw [8] (fun vi wr=>∃(i:Nat) (X1 X2:List α),vi=.int .i64 i/\Hid (X=X1++X2/\(i=a+X1.length\/X=[]/\i=a+1))/\SL enc k w0 blk off (P++(Srt.srt (ltC cf) X1++(X2++Q))) wr) (fun vi _=>b+1-(intOf vi).toNat)
 case atStart =>
  rcases X with _|⟨x,X⟩
  ·exact⟨a+1,[],[],by go_num,Hd ⟨rfl,.inr ⟨rfl,rfl⟩⟩,hs⟩
  ·exact⟨a+1,[x],X,by go_num,Hd ⟨rfl,.inl rfl⟩,hs⟩
 case round =>
  obtain⟨i,X1,X2,rfl,HX,hs1⟩:=hrel;by_cases hlt:i<b
  ·have hltz:(i:Int)<(b:Int):=by omega
   obtain⟨x,X2',h2⟩:∃x X2',X2=x::X2':=by
    rcases X2 with _|⟨x,X2⟩
    ·exfalso
     have h1:=HA.out;have h3:=HX.out;rcases h3 with⟨h3,h4|⟨h4,h5⟩⟩
     ·have:=congrArg List.length h3;simp only[Zb,Zg] at this;omega
     ·rw[h4] at h1;simp only[Zg] at h1;omega
    ·exact⟨x,X2,rfl⟩
   subst h2;have HI:Hid (i=a+X1.length/\X=X1++x::X2'):=by
    have h1:=HA.out;have h3:=HX.out;rcases h3 with⟨h3,h4|⟨h4,h5⟩⟩
    ·exact⟨h4,h3⟩
    ·rw[h4] at h1;simp only[Zg] at h1;omega
   have w2:IntKind.i64.wrap ((i:Int)+1)=((i+1:Nat):Int):=by rw[IntWalk.i64_in _ (by omega)];omega
   have hil:(i:Int)+1<=n:=by omega
   clear hlt HX;go_wp2
   go_loopw [9] (fun vj wr2=>∃(j:Nat) (A B:List α),vj=.int .i64 j/\Hid (Srt.srt (ltC cf) X1=A++B/\(∀y∈B,ltC cf x y=true)/\j=a+A.length)/\SL enc k w0 blk off (P++(A++x::(B++(X2'++Q)))) wr2) (fun vj _=>(intOf vj).toNat)
   case atStart=>exact⟨i,Srt.srt (ltC cf) X1,[],rfl,Hd ⟨by simp,by simp,by rw[Srt.srt_len];exact HI.out.1⟩,by simpa using hs1⟩
   case round =>
    obtain⟨j,A,B,rfl,HB,hs2⟩:=hrel;rcases List.eq_nil_or_concat A with rfl|⟨A,y,rfl⟩
    ·have hja:¬((a:Int)<(j:Int)):=by have:=HB.out.2.2;simp at this;omega
     have HR:Hid (Srt.srt (ltC cf) (X1++[x])=x::B):=by
      have:=HB.out
      show _=_;rw[Srt.srt_snoc,this.1,Zm,Srt.ins_all this.2.1]
     obtain⟨L,hL⟩:∃L,P++([]++x::(B++(X2'++Q)))=L:=⟨_,rfl⟩;rw[hL] at hs2;have HL':=Hd hL;clear hs1 hL
     haveI:Nonempty (InSL enc k w0 blk off L):=⟨⟨_,hs2⟩⟩
     go_wp2_with fail
     have hjn:decide (a<j)=false:=zL (by have:=HB.out.2.2;simp at this;omega)
     go_big_region_o
     all_goals go_wp2
     have hs3:=hs2.drew;refine⟨⟨i+1,X1++[x],X2',by go_num,?_,?_⟩,?_⟩
     ·have:=HI.out
      exact⟨by rw[this.2];simp,.inl (by rw[this.1];simp;omega)⟩
     ·rw[HR.out];have:=hs3;rw[<-HL'.out] at this;simpa using this
     ·simp only[intOf];omega
    ·rw[List.concat_eq_append] at HB hs2
     obtain⟨jp,hjp⟩:∃jp,jp=(P++A).length:=⟨_,rfl⟩;have hj:j=jp+1:=by
      have h1:=HB.out.2.2;have h2:=HA.out.1;simp only[Zb,Ze,Zg] at h1 hjp;omega
     obtain⟨L,hL⟩:∃L,(P++A)++y::([]++x::(B++(X2'++Q)))=L:=⟨_,rfl⟩;have hs3:SL enc k w0 blk off L wr:=by rw[<-hL];simpa using hs2
     have hLl:L.length=n:=by
      rw[<-hL,<-HL.out];have h1:=congrArg List.length HB.out.1;rw[Srt.srt_len] at h1;rw[HI.out.2];simp only[Zb,Ze,Zg] at h1 ⊢;omega
     have hjl:jp+1<L.length:=by
      rw[<-hL,hjp];simp only[Zb,Ze,Zg];omega
     have ex:L[jp+1]'hjl=x:=by
      have h0:L=((P++A)++[y])++x::(B++(X2'++Q)):=by rw[<-hL];simp
      have h1:jp+1=((P++A)++[y]).length:=by rw[hjp];simp only[Zb,Ze,Zg]
      simp only[h0,h1];simp
     have ey:L[jp]'(by omega)=y:=by
      simp only[<-hL,hjp];simp
     have hjn:decide (a<j)=true:=zM (by have h1:=HB.out.2.2;simp only[Zb,Ze,Zg] at h1;omega)
     have hjn':decide ((a:Int)<(j:Int))=true:=zM (by have:=of_decide_eq_true hjn;omega)
     have w3:IntKind.i64.wrap ((j:Int)-1)=(jp:Int):=by rw[IntWalk.i64_in _ (by omega)];omega
     have jz:(j:Int)<n:=by omega
     have jz1:(jp:Int)<n:=by omega
     have lx:∀p:InSL enc k w0 blk off L,Sem.run Tryz.prog (loadCellsFrom ⟨blk,off+j*k,none⟩ 0 k #[]) p.W=.ok (enc x).toArray p.W:=fun p=>by
      have:=p.h.load HG.out hLl Tryz.prog (jp+1) hjl
      rw[ex,<-hj] at this;exact this
     have ly:∀p:InSL enc k w0 blk off L,Sem.run Tryz.prog (loadCellsFrom ⟨blk,off+jp*k,none⟩ 0 k #[]) p.W=.ok (enc y).toArray p.W:=fun p=>by
      have:=p.h.load HG.out hLl Tryz.prog jp (by omega)
      rw[ey] at this;exact this
     have HCQ:=Hd (fun p=>HCC.out.quiet hLl x y p)
     haveI:Nonempty (InSL enc k w0 blk off L):=⟨⟨_,hs3⟩⟩
     have HJ:=Hd (And.intro hj (And.intro hjl hjp));have HL2:=Hd hL;have HLN:=Hd hLl;clear hs1 hs2 hj ex ey hjl hjp hL hLl;by_cases hlv:cf x y<0
     ·go_wp2_with fail
      refine zK mixed (by kernel_rfl) hs3 ?_
      repeat (quiet_step (first|(go_at_fn gf;exact HCQ.out _)))
      refine wpQuiet_nil ?_;rintro wq ⟨p,rfl⟩;go_wp2_with fail
      obtain⟨wq,hq⟩:=p;show Code.wp _ _ _ _ wq;have lx1:Sem.run Tryz.prog (loadCellsFrom ⟨blk,off+j*k,none⟩ 0 k #[]) wq.drew=.ok (enc x).toArray wq.drew:=lx ⟨wq.drew,hq.drew⟩;have ly1:Sem.run Tryz.prog (loadCellsFrom ⟨blk,off+jp*k,none⟩ 0 k #[]) wq.drew=.ok (enc y).toArray wq.drew:=ly ⟨wq.drew,hq.drew⟩;have s1:=hq.st1 HG.out HLN.out Tryz.prog j (by have:=HJ.out;omega) y
      have s2:=hq.st2 HG.out HLN.out Tryz.prog j jp (by have:=HJ.out;omega) (by have:=HJ.out;omega) y x
      have HS:Hid (SL enc k w0 blk off (P++(A++x::((y::B)++(X2'++Q)))) ((wq.drew.setCells blk (off+j*k) (enc y)).setCells blk (off+jp*k) (enc x))):=by
       have h1:=HJ.out;rw[<-HL2.out] at hq;have:=hq.swapped' HG.out
       rw[show (P++A).length+1+([]:List α).length=j by simp only[Zg];omega,<-h1.2.2] at this
       show SL _ _ _ _ _ _ _;have e:(P++A)++x::([]++y::(B++(X2'++Q)))=P++(A++x::((y::B)++(X2'++Q))):=by simp
       rwa [<-e]
      have kx:(enc x).length=k:=HG.out.hk x;have ky:(enc y).length=k:=HG.out.hk y;clear lx ly hs3 hq;obtain⟨cx,hcx⟩:∃cx,cx=enc x:=⟨_,rfl⟩;obtain⟨cy,hcy⟩:∃cy,cy=enc y:=⟨_,rfl⟩;rw[<-hcx] at lx1 s2 kx;rw[<-hcy] at ly1 s1 s2 ky;rw[<-hcx,<-hcy] at HS;have HLV:=Hd hlv;clear hcx hcy HCQ hlv
      go_big_region_o
      all_goals go_wp2
      refine⟨⟨jp,A,y::B,rfl,?_,by simpa using HS.out⟩,?_⟩
      ·have h1:=HB.out
       have h2:=HJ.out;refine⟨by rw[h1.1];simp,fun z hz=>?_,by have:=h1.2.2;simp only[Zb,Ze,Zg] at this;omega⟩
       rcases List.mem_cons.1 hz with rfl|hz
       ·exact zM HLV.out
       ·exact h1.2.1 _ hz
      ·have:=HJ.out.1;simp only[intOf,Int.toNat_natCast];omega
     ·go_wp2_with fail
      refine zK mixed (by kernel_rfl) hs3 ?_
      repeat (quiet_step (first|(go_at_fn gf;exact HCQ.out _)))
      refine wpQuiet_nil ?_;rintro wq ⟨p,rfl⟩;have HLV:=Hd hlv;go_wp2
      refine⟨⟨i+1,X1++[x],X2',by go_num,?_,?_⟩,?_⟩
      ·have:=HI.out
       exact⟨by rw[this.2];simp,.inl (by rw[this.1];simp;omega)⟩
      ·have h1:=HB.out
       have hst:Srt.Sorted (ltC cf) (A++y::B):=by
        have:=(Srt.srt_st HO.out X1).1
        rw[h1.1] at this;simpa using this
       have:Srt.srt (ltC cf) (X1++[x])=A++y::x::B:=by
        rw[Srt.srt_snoc,h1.1,List.append_assoc];exact Srt.ins_stop HO.out hst (zL (Int.not_lt.2 HLV.out)) h1.2.1
       rw[this];obtain⟨wq,hq⟩:=p;show SL _ _ _ _ _ _ wq;rw[<-HL2.out] at hq;simpa using hq
      ·simp only[intOf];omega
  ·have hltz:¬((i:Int)<(b:Int)):=by omega
   have HE:Hid (X2=[]/\X=X1):=by
    have h1:=HA.out;have h3:=HX.out;have h4:X2=[]:=by
     rcases h3 with⟨h3,h4|⟨h4,h5⟩⟩
     ·have:=congrArg List.length h3;simp only[Zb] at this;exact List.length_eq_zero_iff.1 (by omega)
     ·rw[h4] at h3;exact (List.append_eq_nil_iff.1 h3.symm).2
    exact⟨h4,by rw[h3.1,h4,List.append_nil]⟩
   have HS:=Hd hs1;clear hs1 hlt;go_wp2
   go_end0
   refine⟨rfl,?_⟩;have:=HS.out
   rw[HE.out.1] at this;rw[HE.out.2];simpa using this
end
end
end Go.Proofs.YtgmbefolgppmdaaGreat
