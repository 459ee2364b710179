/- Sorting a row of records: two neighbouring ranges, turned about. -/
import Derived.Test.YtgmbefolgppmdaaGreatLSfC
import Derived.Test.YtgmbefolgppmdaaGreatLAli
import Derived.Test.YtgmbefolgppmdaaGreatLSrtD
namespace Go.Proofs.YtgmbefolgppmdaaGreat
open Go.RowKit Go.Shelf Go.Sort
set_option maxRecDepth 100000
section
namespace Ed
section
variable {α:Type} [Inhabited α] {enc:α->List Value} {k:Nat} {w0:World} {blk off:Nat}
set_option maxHeartbeats 4000000 in
theorem rotate_any {n:Nat} (g:SG enc k w0 blk off n) (aE:∀w,(isAgg 45).run Tryz.prog w=.ok true w) (zE:∀w,(Go.sizeOf 45).run Tryz.prog w=.ok k w) (hn:n<=1000000) (cap:Nat) (vf:Value)
  (P X Y Q:List α) (a m b:Nat) (hl:(P++(X++(Y++Q))).length=n) (ha:P.length=a) (hm:P.length+X.length=m) (hb:m+Y.length=b) (hX:0<X.length) (hY:0<Y.length)
  (W:World) (hs:SL enc k w0 blk off (P++(X++(Y++Q))) W) :
  Calls Tryz.prog 136 #[.slice (some ⟨blk,off,none⟩) n cap,.int .i64 a,.int .i64 m,.int .i64 b,vf] W fun e w'=>e=.returned (.tuple #[])/\SL enc k w0 blk off (P++(Y++(X++Q))) w':=by
 obtain⟨T,hT⟩:=Zq (P++(Y++(X++Q)));have HT:=Hd hT;have HG:=Hd g;have AE:=Hd aE;have ZE:=Hd zE;have HNN:=Hd hn;have nums:X.length=m-a/\Y.length=b-m/\b<=n/\a<m/\m<b:=by simp only[Zb] at hl;omega
 obtain⟨n1,n2,n3,n4,n5⟩:=nums;obtain⟨i0,hi0⟩:∃i0,i0=m-a:=⟨_,rfl⟩;obtain⟨j0,hj0⟩:∃j0,j0=b-m:=⟨_,rfl⟩;have w1:IntKind.i64.wrap ((m:Int)-a)=(i0:Int):=by rw[IntWalk.i64_in _ (by omega)];omega
 have w2:IntKind.i64.wrap ((b:Int)-m)=(j0:Int):=by rw[IntWalk.i64_in _ (by omega)];omega
 have N0:Hid (X.length=i0/\Y.length=j0/\P.length+i0=m/\0<i0/\0<j0/\m+j0<=n/\(P++(X++(Y++Q))).length=n):=by
  show _/\_;refine⟨by omega,by omega,by omega,by omega,by omega,by omega,hl⟩
 rw[hT];clear n1 n2 n3 n4 n5 hi0 hj0 hl ha hm hb hX hY hn g aE zE hT
 go_enter Tryz.func136,Tryz.ntmps136
 go_wp2
 go_loopw [10,11] (fun vi vj wr=>∃(i j:Nat) (P X Y Q:List α),vi=.int .i64 i/\vj=.int .i64 j/\Hid (X.length=i/\Y.length=j/\P.length+i=m/\0<i/\0<j/\m+j<=n/\(P++(X++(Y++Q))).length=n)/\Hid (P++(Y++(X++Q))=T)/\SL enc k w0 blk off (P++(X++(Y++Q))) wr) (fun vi vj _=>(intOf vi).toNat+(intOf vj).toNat)
 case atStart=>exact⟨i0,j0,P,X,Y,Q,rfl,rfl,N0,HT,hs⟩
 case round =>
  obtain⟨i,j,P,X,Y,Q,rfl,rfl,HN,HT,hs⟩:=hrel;obtain⟨p,hp⟩:∃p,p=P.length:=⟨_,rfl⟩;have w3:IntKind.i64.wrap ((m:Int)-i)=(p:Int):=by have:=HN.out;have:=HNN.out;rw[IntWalk.i64_in _ (by omega)];omega
  rcases Nat.lt_trichotomy i j with h|h|h
  ·have hne:((i:Int) != j)=true:=by simp;omega
   have hgt:¬((j:Int)<i):=by omega
   obtain⟨q,hq⟩:∃q,q=m+j:=⟨_,rfl⟩;obtain⟨r,hr⟩:∃r,r=m+j-i:=⟨_,rfl⟩;obtain⟨d,hd⟩:∃d,d=j-i:=⟨_,rfl⟩;have w4:IntKind.i64.wrap ((m:Int)+j)=(q:Int):=by have:=HN.out;have:=HNN.out;rw[IntWalk.i64_in _ (by omega)];omega
   have w5:IntKind.i64.wrap ((q:Int)-i)=(r:Int):=by have:=HN.out;have:=HNN.out;rw[IntWalk.i64_in _ (by omega)];omega
   have w6:IntKind.i64.wrap ((j:Int)-i)=(d:Int):=by have:=HN.out;have:=HNN.out;rw[IntWalk.i64_in _ (by omega)];omega
   have e0:Y=Y.take d++Y.drop d:=(List.take_append_drop _ _).symm;have l1:(Y.take d).length=d:=by have:=HN.out;rw[List.length_take];omega
   have l2:(Y.drop d).length=i:=by have:=HN.out;rw[List.length_drop];omega
   generalize Y.take d=Y1 at *
   generalize Y.drop d=Y2 at *
   have hl:=HN.out.2.2.2.2.2.2;rw[e0,List.append_assoc] at hs hl;have HE:=Hd e0;have HQ:=Hd (And.intro h (And.intro hq (And.intro hr (And.intro hd (And.intro l1 (And.intro l2 hp))))));have HC:=Hd (zA HG.out AE.out ZE.out HNN.out cap vf P X Y1 Y2 Q p r i hl (by have:=HN.out;omega) hp.symm (by have:=HN.out;omega) (by have:=HN.out;omega))
   clear w1 w2 h hq hr hd l1 l2 hp e0 hl;go_wp2_with fail
   refine (HC.out _ hs).mono ?_;rintro e wq ⟨rfl,hs'⟩;go_wp2_with fail
   refine⟨⟨i,d,P,Y2,Y1,X++Q,rfl,rfl,?_,?_,by simpa using hs'⟩,?_⟩
   ·obtain⟨h,hq,hr,hd,l1,l2,hp⟩:=HQ.out
    obtain⟨a1,a2,a3,a4,a5,a6,a7⟩:=HN.out;have:=HE.out
    show _/\_;refine⟨l2,l1,a3,a4,by omega,by omega,?_⟩
    rw[this] at a7;simp only[Zb] at a7 ⊢;omega
   ·have:=HE.out
    have h2:=HT.out;show _=_;rw[this] at h2;rw[<-h2];simp
   ·have:=HQ.out;have:=HN.out
    simp only[intOf,Int.toNat_natCast];omega
  ·have hne:((i:Int) != j)=false:=by simp;omega
   subst h;have HC:=Hd (zA HG.out AE.out ZE.out HNN.out cap vf P X [] Y Q p m i (by have:=HN.out;simpa using this.2.2.2.2.2.2) (by have:=HN.out;omega) hp.symm (by have:=HN.out;simp;omega) (by have:=HN.out;omega))
   clear w1 w2 hp;go_wp2_with fail
   refine (HC.out _ (by simpa using hs)).mono ?_
   rintro e wq ⟨rfl,hs'⟩;have HS:=Hd hs';clear hs';go_wp2_with fail
   go_end0
   refine⟨rfl,?_⟩;rw[<-HT.out];simpa using HS.out
  ·have hne:((i:Int) != j)=true:=by simp;omega
   have hgt:(j:Int)<i:=by omega
   obtain⟨d,hd⟩:∃d,d=i-j:=⟨_,rfl⟩;have w6:IntKind.i64.wrap ((i:Int)-j)=(d:Int):=by have:=HN.out;have:=HNN.out;rw[IntWalk.i64_in _ (by omega)];omega
   have e0:X=X.take j++X.drop j:=(List.take_append_drop _ _).symm;have l1:(X.take j).length=j:=by have:=HN.out;rw[List.length_take];omega
   have l2:(X.drop j).length=d:=by have:=HN.out;rw[List.length_drop];omega
   generalize X.take j=X1 at *
   generalize X.drop j=X2 at *
   have hl:=HN.out.2.2.2.2.2.2;rw[e0,List.append_assoc] at hs hl;have HE:=Hd e0;have HQ:=Hd (And.intro h (And.intro hd (And.intro l1 (And.intro l2 hp))));have HC:=Hd (zA HG.out AE.out ZE.out HNN.out cap vf P X1 X2 Y Q p m j hl (by have:=HN.out;omega) hp.symm (by have:=HN.out;omega) (by have:=HN.out;omega))
   clear w1 w2 h hd l1 l2 hp e0 hl;go_wp2_with fail
   refine (HC.out _ hs).mono ?_;rintro e wq ⟨rfl,hs'⟩;go_wp2_with fail
   refine⟨⟨d,j,P++Y,X2,X1,Q,rfl,rfl,?_,?_,by simpa using hs'⟩,?_⟩
   ·obtain⟨h,hd,l1,l2,hp⟩:=HQ.out
    obtain⟨a1,a2,a3,a4,a5,a6,a7⟩:=HN.out;have:=HE.out
    show _/\_;refine⟨l2,l1,by rw[Zb];omega,by omega,by omega,by omega,?_⟩
    rw[this] at a7;simp only[Zb] at a7 ⊢;omega
   ·have:=HE.out
    have h2:=HT.out;show _=_;rw[this] at h2;rw[<-h2];simp
   ·have:=HQ.out;have:=HN.out
    simp only[intOf,Int.toNat_natCast];omega
end
end Ed
end
section
namespace Ed
section
variable {α:Type} [Inhabited α] {enc:α->List Value} {k:Nat} {w0:World} {blk off:Nat}
def ltC (cf:α->α->Int) (x y:α):Bool:=decide (cf x y<0)
def CmpOk (gf:Nat) (enc:α->List Value) (k:Nat) (cf:α->α->Int) (w0:World) (blk off n:Nat):Prop :=
 ∀(W:World) (l:List α),SL enc k w0 blk off l W->l.length=n->∀x y:α,Calls Tryz.prog gf #[.agg (enc x).toArray,.agg (enc y).toArray] W fun e w'=>e=.returned (.int .i64 (cf x y))/\Below W.heap.size W w'
structure InSL (enc:α->List Value) (k:Nat) (w0:World) (blk off:Nat) (l:List α) where
 W:World
 h:SL enc k w0 blk off l W
theorem zK {P:Program} {id:Nat} {Q:Exit->Act->World->Prop} {a:Act} {w:World} {ops:List Oper} {l:List α} (hm:P.follows .mixedOrders=true) (hB:Region.lexB .any ops.toArray=true) (hs:SL enc k w0 blk off l w)
  (h:wpQuiet P ops.toArray (fun w'=>∃p:InSL enc k w0 blk off l,w'=p.W) (fun a'=>∀w',(∃p:InSL enc k w0 blk off l,w'=p.W)->Q .normal a' w') ops a):(Code.region id ops.toArray true).wp P Q a w :=
 wp_region_quiet (C:=fun w'=>∃p:InSL enc k w0 blk off l,w'=p.W) hm hB ⟨⟨w.drew,hs.drew⟩,rfl⟩ (by simpa using h)
theorem CmpOk.quiet {gf:Nat} {cf:α->α->Int} {n:Nat} (h:CmpOk gf enc k cf w0 blk off n) {l:List α} (hl:l.length=n) (x y:α) (p:InSL enc k w0 blk off l) :
  Calls Tryz.prog gf #[.agg (enc x).toArray,.agg (enc y).toArray] p.W fun e w'=>e=.returned (.int .i64 (cf x y))/\∃p':InSL enc k w0 blk off l,w'=p'.W :=
 (h p.W l p.h hl x y).mono fun _ w' ⟨he,hb⟩=>⟨he,⟨w',p.h.below hb⟩,rfl⟩
set_option maxHeartbeats 400000 in
theorem insertion_any {n:Nat} (g:SG enc k w0 blk off n) (aE:∀w,(isAgg 45).run Tryz.prog w=.ok true w) (zE:∀w,(Go.sizeOf 45).run Tryz.prog w=.ok k w) (hn:n<=1000000) (cap:Nat)
  (gf:Nat) (eg:∀args w,(callFunc gf args).run Tryz.prog w=.ok (.enter gf args) w) (cf:α->α->Int) (hC:CmpOk gf enc k cf w0 blk off n) (ho:Srt.Ord (ltC cf))
  (P X Q:List α) (a b:Nat) (hl:(P++(X++Q)).length=n) (ha:P.length=a) (hb:P.length+X.length=b)
  (W:World) (hs:SL enc k w0 blk off (P++(X++Q)) W) :
  Calls Tryz.prog 127 #[.slice (some ⟨blk,off,none⟩) n cap,.int .i64 a,.int .i64 b,.func (.func gf) #[] #[]] W fun e w'=>e=.returned (.tuple #[])/\SL enc k w0 blk off (P++(Srt.srt (ltC cf) X++Q)) w':=by
 have mixed:Tryz.prog.follows .mixedOrders=true:=by kernel_rfl
 have HG:=Hd g;have HO:=Hd ho;have HCC:=Hd hC;have HA:=Hd (And.intro ha hb);have HL:=Hd hl;have hbn:(b:Int)<=n:=by simp only[Zb] at hl;omega
 have hab:(a:Int)<=b:=by omega
 have hnn:(n:Int)<=1000000:=by omega
 have w1:IntKind.i64.wrap ((a:Int)+1)=((a+1:Nat):Int):=by rw[IntWalk.i64_in _ (by omega)];omega
 clear g ho hC ha hb hl hn
 go_enter Tryz.func127,Tryz.ntmps127
 go_wp2
 go_loopw [8] (fun vi wr=>∃(i:Nat) (X1 X2:List α),vi=.int .i64 i/\Hid (X=X1++X2/\(i=a+X1.length\/X=[]/\i=a+1))/\SL enc k w0 blk off (P++(Srt.srt (ltC cf) X1++(X2++Q))) wr) (fun vi _=>b+1-(intOf vi).toNat)
 case atStart =>
  rcases X with _|⟨x,X⟩
  ·exact⟨a+1,[],[],by go_num,Hd ⟨rfl,.inr ⟨rfl,rfl⟩⟩,hs⟩
  ·exact⟨a+1,[x],X,by go_num,Hd ⟨rfl,.inl rfl⟩,hs⟩
 case round =>
  obtain⟨i,X1,X2,rfl,HX,hs1⟩:=hrel;by_cases hlt:i<b
  ·have hltz:(i:Int)<(b:Int):=by omega
   obtain⟨x,X2',h2⟩:∃x X2',X2=x::X2':=by
    rcases X2 with _|⟨x,X2⟩
    ·exfalso
     have h1:=HA.out;have h3:=HX.out;rcases h3 with⟨h3,h4|⟨h4,h5⟩⟩
     ·have:=congrArg List.length h3;simp only[Zb,Zg] at this;omega
     ·rw[h4] at h1;simp only[Zg] at h1;omega
    ·exact⟨x,X2,rfl⟩
   subst h2;have HI:Hid (i=a+X1.length/\X=X1++x::X2'):=by
    have h1:=HA.out;have h3:=HX.out;rcases h3 with⟨h3,h4|⟨h4,h5⟩⟩
    ·exact⟨h4,h3⟩
    ·rw[h4] at h1;simp only[Zg] at h1;omega
   have w2:IntKind.i64.wrap ((i:Int)+1)=((i+1:Nat):Int):=by rw[IntWalk.i64_in _ (by omega)];omega
   have hil:(i:Int)+1<=n:=by omega
   clear hlt HX;go_wp2
   go_loopw [9] (fun vj wr2=>∃(j:Nat) (A B:List α),vj=.int .i64 j/\Hid (Srt.srt (ltC cf) X1=A++B/\(∀y∈B,ltC cf x y=true)/\j=a+A.length)/\SL enc k w0 blk off (P++(A++x::(B++(X2'++Q)))) wr2) (fun vj _=>(intOf vj).toNat)
   case atStart=>exact⟨i,Srt.srt (ltC cf) X1,[],rfl,Hd ⟨by simp,by simp,by rw[Srt.srt_len];exact HI.out.1⟩,by simpa using hs1⟩
   case round =>
    obtain⟨j,A,B,rfl,HB,hs2⟩:=hrel;rcases List.eq_nil_or_concat A with rfl|⟨A,y,rfl⟩
    ·have hja:¬((a:Int)<(j:Int)):=by have:=HB.out.2.2;simp at this;omega
     have HR:Hid (Srt.srt (ltC cf) (X1++[x])=x::B):=by
      have:=HB.out
      show _=_;rw[Srt.srt_snoc,this.1,Zm,Srt.ins_all this.2.1]
     obtain⟨L,hL⟩:∃L,P++([]++x::(B++(X2'++Q)))=L:=⟨_,rfl⟩;rw[hL] at hs2;have HL':=Hd hL;clear hs1 hL
     haveI:Nonempty (InSL enc k w0 blk off L):=⟨⟨_,hs2⟩⟩
     go_wp2_with fail
     have hjn:decide (a<j)=false:=zL (by have:=HB.out.2.2;simp at this;omega)
     go_big_region_o
     all_goals go_wp2
     have hs3:=hs2.drew;refine⟨⟨i+1,X1++[x],X2',by go_num,?_,?_⟩,?_⟩
     ·have:=HI.out
      exact⟨by rw[this.2];simp,.inl (by rw[this.1];simp;omega)⟩
     ·rw[HR.out];have:=hs3;rw[<-HL'.out] at this;simpa using this
     ·simp only[intOf];omega
    ·rw[List.concat_eq_append] at HB hs2
     obtain⟨jp,hjp⟩:∃jp,jp=(P++A).length:=⟨_,rfl⟩;have hj:j=jp+1:=by
      have h1:=HB.out.2.2;have h2:=HA.out.1;simp only[Zb,Ze,Zg] at h1 hjp;omega
     obtain⟨L,hL⟩:∃L,(P++A)++y::([]++x::(B++(X2'++Q)))=L:=⟨_,rfl⟩;have hs3:SL enc k w0 blk off L wr:=by rw[<-hL];simpa using hs2
     have hLl:L.length=n:=by
      rw[<-hL,<-HL.out];have h1:=congrArg List.length HB.out.1;rw[Srt.srt_len] at h1;rw[HI.out.2];simp only[Zb,Ze,Zg] at h1 ⊢;omega
     have hjl:jp+1<L.length:=by
      rw[<-hL,hjp];simp only[Zb,Ze,Zg];omega
     have ex:L[jp+1]'hjl=x:=by
      have h0:L=((P++A)++[y])++x::(B++(X2'++Q)):=by rw[<-hL];simp
      have h1:jp+1=((P++A)++[y]).length:=by rw[hjp];simp only[Zb,Ze,Zg]
      simp only[h0,h1];simp
     have ey:L[jp]'(by omega)=y:=by
      simp only[<-hL,hjp];simp
     have hjn:decide (a<j)=true:=zM (by have h1:=HB.out.2.2;simp only[Zb,Ze,Zg] at h1;omega)
     have hjn':decide ((a:Int)<(j:Int))=true:=zM (by have:=of_decide_eq_true hjn;omega)
     have w3:IntKind.i64.wrap ((j:Int)-1)=(jp:Int):=by rw[IntWalk.i64_in _ (by omega)];omega
     have jz:(j:Int)<n:=by omega
     have jz1:(jp:Int)<n:=by omega
     have lx:∀p:InSL enc k w0 blk off L,Sem.run Tryz.prog (loadCellsFrom ⟨blk,off+j*k,none⟩ 0 k #[]) p.W=.ok (enc x).toArray p.W:=fun p=>by
      have:=p.h.load HG.out hLl Tryz.prog (jp+1) hjl
      rw[ex,<-hj] at this;exact this
     have ly:∀p:InSL enc k w0 blk off L,Sem.run Tryz.prog (loadCellsFrom ⟨blk,off+jp*k,none⟩ 0 k #[]) p.W=.ok (enc y).toArray p.W:=fun p=>by
      have:=p.h.load HG.out hLl Tryz.prog jp (by omega)
      rw[ey] at this;exact this
     have HCQ:=Hd (fun p=>HCC.out.quiet hLl x y p)
     haveI:Nonempty (InSL enc k w0 blk off L):=⟨⟨_,hs3⟩⟩
     have HJ:=Hd (And.intro hj (And.intro hjl hjp));have HL2:=Hd hL;have HLN:=Hd hLl;clear hs1 hs2 hj ex ey hjl hjp hL hLl;by_cases hlv:cf x y<0
     ·go_wp2_with fail
      refine zK mixed (by kernel_rfl) hs3 ?_
      repeat (quiet_step (first|(go_at_fn gf;exact HCQ.out _)))
      refine wpQuiet_nil ?_;rintro wq ⟨p,rfl⟩;go_wp2_with fail
      obtain⟨wq,hq⟩:=p;show Code.wp _ _ _ _ wq;have lx1:Sem.run Tryz.prog (loadCellsFrom ⟨blk,off+j*k,none⟩ 0 k #[]) wq.drew=.ok (enc x).toArray wq.drew:=lx ⟨wq.drew,hq.drew⟩;have ly1:Sem.run Tryz.prog (loadCellsFrom ⟨blk,off+jp*k,none⟩ 0 k #[]) wq.drew=.ok (enc y).toArray wq.drew:=ly ⟨wq.drew,hq.drew⟩;have s1:=hq.st1 HG.out HLN.out Tryz.prog j (by have:=HJ.out;omega) y
      have s2:=hq.st2 HG.out HLN.out Tryz.prog j jp (by have:=HJ.out;omega) (by have:=HJ.out;omega) y x
      have HS:Hid (SL enc k w0 blk off (P++(A++x::((y::B)++(X2'++Q)))) ((wq.drew.setCells blk (off+j*k) (enc y)).setCells blk (off+jp*k) (enc x))):=by
       have h1:=HJ.out;rw[<-HL2.out] at hq;have:=hq.swapped' HG.out
       rw[show (P++A).length+1+([]:List α).length=j by simp only[Zg];omega,<-h1.2.2] at this
       show SL _ _ _ _ _ _ _;have e:(P++A)++x::([]++y::(B++(X2'++Q)))=P++(A++x::((y::B)++(X2'++Q))):=by simp
       rwa [<-e]
      have kx:(enc x).length=k:=HG.out.hk x;have ky:(enc y).length=k:=HG.out.hk y;clear lx ly hs3 hq;obtain⟨cx,hcx⟩:∃cx,cx=enc x:=⟨_,rfl⟩;obtain⟨cy,hcy⟩:∃cy,cy=enc y:=⟨_,rfl⟩;rw[<-hcx] at lx1 s2 kx;rw[<-hcy] at ly1 s1 s2 ky;rw[<-hcx,<-hcy] at HS;have HLV:=Hd hlv;clear hcx hcy HCQ hlv
      go_big_region_o
      all_goals go_wp2
      refine⟨⟨jp,A,y::B,rfl,?_,by simpa using HS.out⟩,?_⟩
      ·have h1:=HB.out
       have h2:=HJ.out;refine⟨by rw[h1.1];simp,fun z hz=>?_,by have:=h1.2.2;simp only[Zb,Ze,Zg] at this;omega⟩
       rcases List.mem_cons.1 hz with rfl|hz
       ·exact zM HLV.out
       ·exact h1.2.1 _ hz
      ·have:=HJ.out.1;simp only[intOf,Int.toNat_natCast];omega
     ·go_wp2_with fail
      refine zK mixed (by kernel_rfl) hs3 ?_
      repeat (quiet_step (first|(go_at_fn gf;exact HCQ.out _)))
      refine wpQuiet_nil ?_;rintro wq ⟨p,rfl⟩;have HLV:=Hd hlv;go_wp2
      refine⟨⟨i+1,X1++[x],X2',by go_num,?_,?_⟩,?_⟩
      ·have:=HI.out
       exact⟨by rw[this.2];simp,.inl (by rw[this.1];simp;omega)⟩
      ·have h1:=HB.out
       have hst:Srt.Sorted (ltC cf) (A++y::B):=by
        have:=(Srt.srt_st HO.out X1).1
        rw[h1.1] at this;simpa using this
       have:Srt.srt (ltC cf) (X1++[x])=A++y::x::B:=by
        rw[Srt.srt_snoc,h1.1,List.append_assoc];exact Srt.ins_stop HO.out hst (zL (Int.not_lt.2 HLV.out)) h1.2.1
       rw[this];obtain⟨wq,hq⟩:=p;show SL _ _ _ _ _ _ wq;rw[<-HL2.out] at hq;simpa using hq
      ·simp only[intOf];omega
  ·have hltz:¬((i:Int)<(b:Int)):=by omega
   have HE:Hid (X2=[]/\X=X1):=by
    have h1:=HA.out;have h3:=HX.out;have h4:X2=[]:=by
     rcases h3 with⟨h3,h4|⟨h4,h5⟩⟩
     ·have:=congrArg List.length h3;simp only[Zb] at this;exact List.length_eq_zero_iff.1 (by omega)
     ·rw[h4] at h3;exact (List.append_eq_nil_iff.1 h3.symm).2
    exact⟨h4,by rw[h3.1,h4,List.append_nil]⟩
   have HS:=Hd hs1;clear hs1 hlt;go_wp2
   go_end0
   refine⟨rfl,?_⟩;have:=HS.out
   rw[HE.out.1] at this;rw[HE.out.2];simpa using this
end
end Ed
end
section
namespace Ed
section
variable {α:Type} [Inhabited α] {enc:α->List Value} {k:Nat} {w0:World} {blk off:Nat}
theorem mid_num {i j:Nat} (h:(i:Int)+j<=4000000):∃s h:Nat,s=i+j/\h=(i+j) / 2/\IntKind.i64.wrap ((i:Int)+j)=(s:Int)/\IntKind.u64.wrap (s:Int)=(s:Int)/\IntKind.i64.wrap ((s:Int) / 2)=(h:Int):=by
 refine⟨i+j,(i+j) / 2,rfl,rfl,?_,?_,?_⟩
 ·rw[IntWalk.i64_in _ (by omega)];omega
 ·simp only[IntKind.wrap,IntKind.signed,IntKind.bits];simp;omega
 ·rw[IntWalk.i64_in _ (by omega)];omega
theorem load_at {l:List α} {n:Nat} (g:SG enc k w0 blk off n) (hn:l.length=n) (P:Program) {i:Nat} {y:α} (h:∃h:i<l.length,l[i]'h=y) (p:InSL enc k w0 blk off l) :
  Sem.run P (loadCellsFrom ⟨blk,off+i*k,none⟩ 0 k #[]) p.W=.ok (enc y).toArray p.W:=by
 obtain⟨h1,h2⟩:=h;have:=p.h.load g hn P i h1
 rwa [h2] at this
set_option maxHeartbeats 2000000 in
theorem symMerge_one {n:Nat} (g:SG enc k w0 blk off n) (aE:∀w,(isAgg 45).run Tryz.prog w=.ok true w) (zE:∀w,(Go.sizeOf 45).run Tryz.prog w=.ok k w) (hn:n<=1000000) (cap:Nat)
  (gf:Nat) (eg:∀args w,(callFunc gf args).run Tryz.prog w=.ok (.enter gf args) w) (cf:α->α->Int) (hC:CmpOk gf enc k cf w0 blk off n) (ho:Srt.Ord (ltC cf))
  (P:List α) (x:α) (Y Q:List α) (a m b:Nat) (hl:(P++(x::(Y++Q))).length=n) (ha:P.length=a) (hm:m=a+1) (hb:m+Y.length=b) (hY:Srt.Sorted (ltC cf) Y)
  (W:World) (hs:SL enc k w0 blk off (P++(x::(Y++Q))) W) :
  Calls Tryz.prog 128 #[.slice (some ⟨blk,off,none⟩) n cap,.int .i64 a,.int .i64 m,.int .i64 b,.func (.func gf) #[] #[]] W fun e w'=>e=.returned (.tuple #[])/\∃Z,Srt.St (ltC cf) Z ([x]++Y)/\SL enc k w0 blk off (P++(Z++Q)) w':=by
 have mixed:Tryz.prog.follows .mixedOrders=true:=by kernel_rfl
 have HG:=Hd g;have HO:=Hd ho;have HCC:=Hd hC;have HY:=Hd hY;have HA:=Hd (And.intro ha (And.intro hm hb));obtain⟨L,hL⟩:∃L,P++(x::(Y++Q))=L:=⟨_,rfl⟩;rw[hL] at hl hs;have HL:=Hd (And.intro hL hl);have hbn:(b:Int)<=n:=by rw[<-hl,<-hL];simp only[Zb,Ze];omega
 have hmb:(m:Int)<=b:=by omega
 have hnn:(n:Int)<=1000000:=by omega
 have w1:IntKind.i64.wrap ((m:Int)-a)=1:=by rw[IntWalk.i64_in _ (by omega)];omega
 have GL:Hid (∀t,t<Y.length->∃h:m+t<L.length,L[m+t]'h=Y[t]!):=by
  intro t ht;have hlt:m+t<L.length:=by rw[hl];omega
  refine⟨hlt,?_⟩;have h0:L=(P++[x])++(Y++Q):=by rw[<-hL];simp
  simp only[h0];rw[Zs (by simp;omega),Zt (by simp;omega)]
  simp only[getElem!_pos Y t ht];congr 1;simp;omega
 have GX:Hid (∃h:a<L.length,L[a]'h=x):=by
  have hlt:a<L.length:=by rw[hl];omega
  refine⟨hlt,?_⟩;simp only[<-hL];rw[Zs (by omega)];simp[ha]
 haveI:Nonempty (InSL enc k w0 blk off L):=⟨⟨_,hs⟩⟩
 clear g ho hC ha hm hb hl hn hY hL
 go_enter Tryz.func128,Tryz.ntmps128
 go_wp2
 go_loopw [10,11] (fun vi vj wr=>∃i j:Nat,vi=.int .i64 i/\vj=.int .i64 j/\Hid (m<=i/\i<=j/\j<=b/\(∀t,t<Y.length->m+t<i->ltC cf Y[t]! x=true)/\(∀t,t<Y.length->j<=m+t->ltC cf Y[t]! x=false))/\SL enc k w0 blk off L wr) (fun vi vj _=>(intOf vj).toNat-(intOf vi).toNat)
 case atStart=>exact⟨m,b,rfl,rfl,Hd ⟨Zh _,by omega,Zh _,fun t _ h=>by omega,fun t h1 h2=>by have:=HA.out;omega⟩,hs⟩
 case round =>
  obtain⟨i,j,rfl,rfl,HI,hs1⟩:=hrel;by_cases hlt:i<j
  ·have hltz:(i:Int)<(j:Int):=by omega
   obtain⟨s,h,hs',hh,wA,wB,wC⟩:=mid_num (i:=i) (j:=j) (by have:=HI.out;omega)
   have w2:IntKind.i64.wrap ((h:Int)+1)=((h+1:Nat):Int):=by have:=HI.out;rw[IntWalk.i64_in _ (by omega)];omega
   have HH:Hid (h=(i+j) / 2/\i<j/\h-m<Y.length/\m<=h):=by have:=HI.out;have:=HA.out;exact⟨hh,hlt,by omega,by omega⟩
   obtain⟨y,hy⟩:∃y,Y[h-m]! = y:=⟨_,rfl⟩;have bh:(h:Int)<n:=by have:=HH.out;have:=HA.out;omega
   have ba:(a:Int)<n:=by have:=HA.out;have:=HH.out;omega
   have lh:∀p:InSL enc k w0 blk off L,Sem.run Tryz.prog (loadCellsFrom ⟨blk,off+h*k,none⟩ 0 k #[]) p.W=.ok (enc y).toArray p.W:=fun p=>by
    have h1:=GL.out (h-m) HH.out.2.2.1;rw[hy] at h1;refine load_at HG.out HL.out.2 _ ?_ p;have h2:=HH.out.2.2.2;obtain⟨h3,h4⟩:=h1;have e:m+(h-m)=h:=by omega
    simp only[e] at h3 h4;exact⟨h3,h4⟩
   have la:∀p:InSL enc k w0 blk off L,Sem.run Tryz.prog (loadCellsFrom ⟨blk,off+a*k,none⟩ 0 k #[]) p.W=.ok (enc x).toArray p.W:=fun p=>load_at HG.out HL.out.2 _ GX.out p
   have HCQ:=Hd (fun p=>HCC.out.quiet HL.out.2 y x p)
   have HYY:=Hd hy;clear hs' hh hlt hy;by_cases hlv:cf y x<0
   ·go_wp2_with fail
    refine zK mixed (by kernel_rfl) hs1 ?_
    repeat (quiet_step (first|(go_at_fn gf;exact HCQ.out _)))
    refine wpQuiet_nil ?_;rintro wq ⟨p,rfl⟩;have HLV:=Hd hlv;go_wp2
    refine⟨⟨h+1,j,rfl,rfl,?_,p.h⟩,?_⟩
    ·obtain⟨a1,a2,a3,a4⟩:=HH.out
     obtain⟨b1,b2,b3,b4,b5⟩:=HI.out;refine⟨by omega,by omega,b3,fun t ht ht2=>?_,b5⟩
     have e:ltC cf Y[h-m]! x=true:=by rw[HYY.out];exact zM HLV.out
     rcases Nat.lt_or_ge t (h-m) with hj|hj
     ·exact HO.out.lt_of' e (Srt.sorted_get HY.out hj a3)
     ·rw[show t=h-m by omega];exact e
    ·have:=HH.out;simp only[intOf,Int.toNat_natCast];omega
   ·go_wp2_with fail
    refine zK mixed (by kernel_rfl) hs1 ?_
    repeat (quiet_step (first|(go_at_fn gf;exact HCQ.out _)))
    refine wpQuiet_nil ?_;rintro wq ⟨p,rfl⟩;have HLV:=Hd hlv;go_wp2
    refine⟨⟨i,h,rfl,rfl,?_,p.h⟩,?_⟩
    ·obtain⟨a1,a2,a3,a4⟩:=HH.out
     obtain⟨b1,b2,b3,b4,b5⟩:=HI.out;refine⟨b1,by omega,by omega,b4,fun t ht ht2=>?_⟩
     have e:ltC cf Y[h-m]! x=false:=by rw[HYY.out];exact zL (Int.not_lt.2 HLV.out)
     rcases Nat.lt_or_ge (h-m) t with hj|hj
     ·exact HO.out.trans (Srt.sorted_get HY.out hj ht) e
     ·rw[show t=h-m by omega];exact e
    ·have:=HH.out;simp only[intOf,Int.toNat_natCast];omega
  ·have hltz:¬((i:Int)<(j:Int)):=by omega
   obtain⟨i1,hi1⟩:∃i1,i1=i-1:=⟨_,rfl⟩;obtain⟨B1,hB1⟩:=Zq (Y.take (i-m));obtain⟨B2,hB2⟩:=Zq (Y.drop (i-m));have HB:Hid (Y=B1++B2/\a+B1.length=i1/\(∀b∈B1,ltC cf b x=true)/\(∀b∈B2,ltC cf b x=false)):=by
    obtain⟨b1,b2,b3,b4,b5⟩:=HI.out;obtain⟨a1,a2,a3⟩:=HA.out;refine⟨by rw[<-hB1,<-hB2,List.take_append_drop],by rw[<-hB1,List.length_take];omega,?_,?_⟩
    ·rw[<-hB1];exact Srt.all_take fun t h1 h2=>b4 t h1 (by omega)
    ·rw[<-hB2];exact Srt.all_drop fun t h1 h2=>b5 t h1 (by omega)
   have w3:IntKind.i64.wrap ((i:Int)-1)=(i1:Int):=by have:=HI.out;have:=HA.out;rw[IntWalk.i64_in _ (by omega)];omega
   have HI1:Hid (i1+1=i/\i<=b):=by have:=HI.out;have:=HA.out;exact⟨by omega,by omega⟩
   have hs2:SL enc k w0 blk off (P++([]++x::(B1++(B2++Q)))) wr:=by
    rw[<-HL.out.1,HB.out.1] at hs1;simpa using hs1
   clear hlt hB1 hB2 hi1 hs1;go_wp2
   go_loopw [13] (fun vk wr2=>∃(kk:Nat) (B1a B1b:List α),vk=.int .i64 kk/\Hid (B1=B1a++B1b/\kk=a+B1a.length)/\SL enc k w0 blk off (P++(B1a++x::(B1b++(B2++Q)))) wr2) (fun vk _=>i-(intOf vk).toNat)
   case atStart=>exact⟨a,[],B1,rfl,Hd ⟨rfl,rfl⟩,hs2⟩
   case round =>
    obtain⟨kk,B1a,B1b,rfl,HK,hs3⟩:=hrel;rcases B1b with _|⟨y,B1b⟩
    ·have hk:¬((kk:Int)<(i1:Int)):=by
      have h1:=HK.out;have h2:=HB.out.2.1;rw[List.append_nil] at h1;rw[h1.1] at h2;omega
     have HS:=Hd hs3;clear hs2 hs3;go_wp2
     refine bodyPost_ret (results_none rfl _ _ _) rfl ?_;refine⟨rfl,B1++x::B2,?_,?_⟩
     ·have h1:=HB.out
      have hy:=HY.out;rw[h1.1] at hy ⊢;exact Srt.St.insertL HO.out hy h1.2.2.1 h1.2.2.2
     ·have h1:=HK.out.1
      rw[List.append_nil] at h1;rw[h1];simpa using HS.out
    ·have hk:(kk:Int)<(i1:Int):=by
      have h1:=HK.out;have h2:=HB.out.2.1;rw[h1.1] at h2;simp only[Zb,Ze] at h2;omega
     obtain⟨k1,hk1⟩:∃k1,k1=kk+1:=⟨_,rfl⟩;have w4:IntKind.i64.wrap ((kk:Int)+1)=(k1:Int):=by have:=HI1.out;rw[IntWalk.i64_in _ (by omega)];omega
     have b1:(kk:Int)<n:=by have:=HI1.out;omega
     have b2:(k1:Int)<n:=by have:=HI1.out;omega
     obtain⟨M,hM⟩:∃M,(P++B1a)++x::([]++y::(B1b++(B2++Q)))=M:=⟨_,rfl⟩;have hs4:SL enc k w0 blk off M wr:=by rw[<-hM];simpa using hs3
     have hMl:M.length=n:=by
      rw[<-hM,<-HL.out.2,<-HL.out.1,HB.out.1,HK.out.1];simp only[Zb,Ze,Zg];omega
     have hu:kk=(P++B1a).length:=by rw[Zb,HA.out.1];exact HK.out.2
     have g1:∃h:kk<M.length,M[kk]'h=x:=⟨by rw[<-hM,hu];simp,by simp only[<-hM,hu];simp⟩
     have g2:∃h:k1<M.length,M[k1]'h=y:=by
      have h0:M=((P++B1a)++[x])++y::(B1b++(B2++Q)):=by rw[<-hM];simp
      have h1:k1=((P++B1a)++[x]).length:=by rw[hk1,hu];simp only[Zb,Ze,Zg]
      exact⟨by rw[h0,h1];simp,by simp only[h0,h1];simp⟩
     have lx1:Sem.run Tryz.prog (loadCellsFrom ⟨blk,off+kk*k,none⟩ 0 k #[]) wr.drew=.ok (enc x).toArray wr.drew:=load_at HG.out hMl _ g1 ⟨wr.drew,hs4.drew⟩;have ly1:Sem.run Tryz.prog (loadCellsFrom ⟨blk,off+k1*k,none⟩ 0 k #[]) wr.drew=.ok (enc y).toArray wr.drew:=load_at HG.out hMl _ g2 ⟨wr.drew,hs4.drew⟩;have s1:=hs4.st1 HG.out hMl Tryz.prog kk g1.1 y;have s2:=hs4.st2 HG.out hMl Tryz.prog kk k1 g1.1 g2.1 y x;have HS:Hid (SL enc k w0 blk off (P++((B1a++[y])++x::(B1b++(B2++Q)))) ((wr.drew.setCells blk (off+kk*k) (enc y)).setCells blk (off+k1*k) (enc x))):=by
      rw[<-hM] at hs4;have:=hs4.swapped HG.out
      rw[show (P++B1a).length+1+([]:List α).length=k1 by simp only[Zg];omega,<-hu] at this
      show SL _ _ _ _ _ _ _;have e:(P++B1a)++y::([]++x::(B1b++(B2++Q)))=P++((B1a++[y])++x::(B1b++(B2++Q))):=by simp
      rwa [<-e]
     have kx:(enc x).length=k:=HG.out.hk x;have ky:(enc y).length=k:=HG.out.hk y;have HK1:Hid (k1=kk+1/\kk<i1):=⟨hk1,by omega⟩
     clear hs2 hs3 hs4 hk1 hM hMl hu g1 g2;obtain⟨cx,hcx⟩:∃cx,cx=enc x:=⟨_,rfl⟩;obtain⟨cy,hcy⟩:∃cy,cy=enc y:=⟨_,rfl⟩;rw[<-hcx] at lx1 s2 kx;rw[<-hcy] at ly1 s1 s2 ky;rw[<-hcx,<-hcy] at HS;clear hcx hcy;go_wp2_with fail
     go_big_region_o
     all_goals go_wp2
     refine⟨⟨k1,B1a++[y],B1b,rfl,?_,HS.out⟩,?_⟩
     ·have h1:=HK.out;have h2:=HK1.out.1
      exact⟨by rw[h1.1];simp,by rw[h2,h1.2];simp;omega⟩
     ·have:=HK1.out;have:=HI1.out;simp only[intOf,Int.toNat_natCast];omega
end
end Ed
end
section
namespace Ed
section
variable {α:Type} [Inhabited α] {enc:α->List Value} {k:Nat} {w0:World} {blk off:Nat}
set_option maxHeartbeats 2000000 in
theorem symMerge_last {n:Nat} (g:SG enc k w0 blk off n) (aE:∀w,(isAgg 45).run Tryz.prog w=.ok true w) (zE:∀w,(Go.sizeOf 45).run Tryz.prog w=.ok k w) (hn:n<=1000000) (cap:Nat)
  (gf:Nat) (eg:∀args w,(callFunc gf args).run Tryz.prog w=.ok (.enter gf args) w) (cf:α->α->Int) (hC:CmpOk gf enc k cf w0 blk off n) (ho:Srt.Ord (ltC cf))
  (P X:List α) (y:α) (Q:List α) (a m b:Nat) (hl:(P++(X++y::Q)).length=n) (ha:P.length=a) (hm:a+X.length=m) (hb:b=m+1) (h1:X.length≠1) (hX:Srt.Sorted (ltC cf) X)
  (W:World) (hs:SL enc k w0 blk off (P++(X++y::Q)) W) :
  Calls Tryz.prog 128 #[.slice (some ⟨blk,off,none⟩) n cap,.int .i64 a,.int .i64 m,.int .i64 b,.func (.func gf) #[] #[]] W fun e w'=>e=.returned (.tuple #[])/\∃Z,Srt.St (ltC cf) Z (X++[y])/\SL enc k w0 blk off (P++(Z++Q)) w':=by
 have mixed:Tryz.prog.follows .mixedOrders=true:=by kernel_rfl
 have HG:=Hd g;have HO:=Hd ho;have HCC:=Hd hC;have HX:=Hd hX;have HA:=Hd (And.intro ha (And.intro hm hb));obtain⟨L,hL⟩:∃L,P++(X++y::Q)=L:=⟨_,rfl⟩;rw[hL] at hl hs;have HL:=Hd (And.intro hL hl);have hbn:(b:Int)<=n:=by rw[<-hl,<-hL];simp only[Zb,Ze];omega
 have hmb:(m:Int)<=b:=by omega
 have hnn:(n:Int)<=1000000:=by omega
 obtain⟨xl,hxl⟩:∃xl,xl=X.length:=⟨_,rfl⟩;have w1:IntKind.i64.wrap ((m:Int)-a)=(xl:Int):=by rw[IntWalk.i64_in _ (by omega)];omega
 have w1':IntKind.i64.wrap ((b:Int)-m)=1:=by rw[IntWalk.i64_in _ (by omega)];omega
 have x1:xl≠1:=by omega
 have x2:((xl:Int) == 1)=false:=by simp;omega
 have x3:((xl:Int)=1)=False:=by simp;omega
 have GL:Hid (∀t,t<X.length->∃h:a+t<L.length,L[a+t]'h=X[t]!):=by
  intro t ht;have hlt:a+t<L.length:=by rw[hl];omega
  refine⟨hlt,?_⟩;simp only[<-hL];rw[Zs (by omega),Zt (by omega)]
  simp only[getElem!_pos X t ht];congr 1;omega
 have GX:Hid (∃h:m<L.length,L[m]'h=y):=by
  have h0:L=(P++X)++y::Q:=by rw[<-hL];simp
  have h1:m=(P++X).length:=by simp;omega
  exact⟨by rw[h0,h1];simp,by simp only[h0,h1];simp⟩
 haveI:Nonempty (InSL enc k w0 blk off L):=⟨⟨_,hs⟩⟩
 clear g ho hC ha hm hb hl hn hX hL hxl h1
 go_enter Tryz.func128,Tryz.ntmps128
 go_wp2
 go_loopw [14,15] (fun vi vj wr=>∃i j:Nat,vi=.int .i64 i/\vj=.int .i64 j/\Hid (a<=i/\i<=j/\j<=m/\(∀t,t<X.length->a+t<i->ltC cf y X[t]! = false)/\(∀t,t<X.length->j<=a+t->ltC cf y X[t]! = true))/\SL enc k w0 blk off L wr) (fun vi vj _=>(intOf vj).toNat-(intOf vi).toNat)
 case atStart=>exact⟨a,m,rfl,rfl,Hd ⟨Zh _,by have:=HA.out;omega,Zh _,fun t _ h=>by omega,fun t h1 h2=>by have:=HA.out;omega⟩,hs⟩
 case round =>
  obtain⟨i,j,rfl,rfl,HI,hs1⟩:=hrel;by_cases hlt:i<j
  ·have hltz:(i:Int)<(j:Int):=by omega
   obtain⟨s,h,hs',hh,wA,wB,wC⟩:=mid_num (i:=i) (j:=j) (by have:=HI.out;omega)
   have w2:IntKind.i64.wrap ((h:Int)+1)=((h+1:Nat):Int):=by have:=HI.out;rw[IntWalk.i64_in _ (by omega)];omega
   have HH:Hid (h=(i+j) / 2/\i<j/\h-a<X.length/\a<=h):=by have:=HI.out;have:=HA.out;exact⟨hh,hlt,by omega,by omega⟩
   obtain⟨x,hx⟩:∃x,X[h-a]! = x:=⟨_,rfl⟩;have bh:(h:Int)<n:=by have:=HH.out;have:=HA.out;omega
   have ba:(m:Int)<n:=by have:=HA.out;omega
   have lh:∀p:InSL enc k w0 blk off L,Sem.run Tryz.prog (loadCellsFrom ⟨blk,off+h*k,none⟩ 0 k #[]) p.W=.ok (enc x).toArray p.W:=fun p=>by
    have h1:=GL.out (h-a) HH.out.2.2.1;rw[hx] at h1;refine load_at HG.out HL.out.2 _ ?_ p;have h2:=HH.out.2.2.2;obtain⟨h3,h4⟩:=h1;have e:a+(h-a)=h:=by omega
    simp only[e] at h3 h4;exact⟨h3,h4⟩
   have la:∀p:InSL enc k w0 blk off L,Sem.run Tryz.prog (loadCellsFrom ⟨blk,off+m*k,none⟩ 0 k #[]) p.W=.ok (enc y).toArray p.W:=fun p=>load_at HG.out HL.out.2 _ GX.out p
   have HCQ:=Hd (fun p=>HCC.out.quiet HL.out.2 y x p)
   have HYY:=Hd hx;clear hs' hh hlt hx;by_cases hlv:cf y x<0
   ·go_wp2_with fail
    refine zK mixed (by kernel_rfl) hs1 ?_
    repeat (quiet_step (first|(go_at_fn gf;exact HCQ.out _)))
    refine wpQuiet_nil ?_;rintro wq ⟨p,rfl⟩;have HLV:=Hd hlv;go_wp2
    refine⟨⟨i,h,rfl,rfl,?_,p.h⟩,?_⟩
    ·obtain⟨a1,a2,a3,a4⟩:=HH.out
     obtain⟨b1,b2,b3,b4,b5⟩:=HI.out;refine⟨b1,by omega,by omega,b4,fun t ht ht2=>?_⟩
     have e:ltC cf y X[h-a]! = true:=by rw[HYY.out];exact zM HLV.out
     rcases Nat.lt_or_ge (h-a) t with hj|hj
     ·exact HO.out.lt_of e (Srt.sorted_get HX.out hj ht)
     ·rw[show t=h-a by omega];exact e
    ·have:=HH.out;simp only[intOf,Int.toNat_natCast];omega
   ·go_wp2_with fail
    refine zK mixed (by kernel_rfl) hs1 ?_
    repeat (quiet_step (first|(go_at_fn gf;exact HCQ.out _)))
    refine wpQuiet_nil ?_;rintro wq ⟨p,rfl⟩;have HLV:=Hd hlv;have hd:decide (cf y x<0)=false:=zL (by omega)
    go_wp2
    ·refine⟨⟨h+1,j,rfl,rfl,?_,p.h⟩,?_⟩
     ·obtain⟨a1,a2,a3,a4⟩:=HH.out
      obtain⟨b1,b2,b3,b4,b5⟩:=HI.out;refine⟨by omega,by omega,b3,fun t ht ht2=>?_,b5⟩
      have e:ltC cf y X[h-a]! = false:=by rw[HYY.out];exact zL (Int.not_lt.2 HLV.out)
      rcases Nat.lt_or_ge t (h-a) with hj|hj
      ·exact HO.out.trans e (Srt.sorted_get HX.out hj a3)
      ·rw[show t=h-a by omega];exact e
     ·have:=HH.out;simp only[intOf,Int.toNat_natCast];omega
    ·rename_i hh;rw[hd] at hh;exact absurd hh (by decide)
  ·have hltz:¬((i:Int)<(j:Int)):=by omega
   obtain⟨A1,hA1⟩:=Zq (X.take (i-a));obtain⟨A2,hA2⟩:=Zq (X.drop (i-a));have HB:Hid (X=A1++A2/\a+A1.length=i/\i+A2.length=m/\(∀b∈A1,ltC cf y b=false)/\(∀b∈A2,ltC cf y b=true)):=by
    obtain⟨b1,b2,b3,b4,b5⟩:=HI.out;obtain⟨a1,a2,a3⟩:=HA.out;refine⟨by rw[<-hA1,<-hA2,List.take_append_drop],by rw[<-hA1,List.length_take];omega,by rw[<-hA2,List.length_drop];omega,?_,?_⟩
    ·rw[<-hA1];exact Srt.all_take fun t h1 h2=>b4 t h1 (by omega)
    ·rw[<-hA2];exact Srt.all_drop fun t h1 h2=>b5 t h1 (by omega)
   have HI1:Hid (i<=m):=by have:=HI.out;show i<=m;omega
   have hs2:SL enc k w0 blk off (P++(A1++(A2++y::([]++Q)))) wr:=by
    rw[<-HL.out.1,HB.out.1] at hs1;simpa using hs1
   clear hlt hA1 hA2 hs1;go_wp2
   go_loopw [17] (fun vk wr2=>∃(kk:Nat) (B1 B2:List α),vk=.int .i64 kk/\Hid (A2=B1++B2/\kk=i+B1.length)/\SL enc k w0 blk off (P++(A1++(B1++y::(B2++Q)))) wr2) (fun vk _=>(intOf vk).toNat)
   case atStart=>exact⟨m,A2,[],rfl,Hd ⟨by simp,by have:=HB.out;omega⟩,hs2⟩
   case round =>
    obtain⟨kk,B1,B2,rfl,HK,hs3⟩:=hrel;rcases List.eq_nil_or_concat B1 with rfl|⟨B1,v,rfl⟩
    ·have hk:¬((i:Int)<(kk:Int)):=by have h1:=HK.out.2;simp only[Zg] at h1;omega
     have HS:=Hd hs3;clear hs2 hs3;go_wp2
     refine bodyPost_ret (results_none rfl _ _ _) rfl ?_;refine⟨rfl,A1++y::A2,?_,?_⟩
     ·have h1:=HB.out
      have hy:=HX.out;rw[h1.1] at hy ⊢;exact Srt.St.insert HO.out hy h1.2.2.2.1 h1.2.2.2.2
     ·have h1:=HK.out.1
      rw[Zm] at h1;rw[h1];simpa using HS.out
    ·rw[List.concat_eq_append] at HK hs3
     have hk:(i:Int)<(kk:Int):=by have h1:=HK.out.2;simp only[Zb,Ze,Zg] at h1;omega
     obtain⟨k1,hk1⟩:∃k1,k1=i+B1.length:=⟨_,rfl⟩;have HK1:Hid (kk=k1+1/\kk<=m):=by
      have h1:=HK.out;have h2:=HB.out.2.2.1;rw[h1.1] at h2;simp only[Zb,Ze,Zg] at h1 h2;exact⟨by omega,by omega⟩
     have w4:IntKind.i64.wrap ((kk:Int)-1)=(k1:Int):=by have:=HK1.out;have:=HI1.out;rw[IntWalk.i64_in _ (by omega)];omega
     have b1:(kk:Int)<n:=by have:=HK1.out;have:=HA.out;omega
     have b2:(k1:Int)<n:=by have:=HK1.out;omega
     obtain⟨M,hM⟩:∃M,(P++(A1++B1))++v::([]++y::(B2++Q))=M:=⟨_,rfl⟩;have hs4:SL enc k w0 blk off M wr:=by rw[<-hM];simpa using hs3
     have hMl:M.length=n:=by
      rw[<-hM,<-HL.out.2,<-HL.out.1,HB.out.1,HK.out.1];simp only[Zb,Ze,Zg];omega
     have hu:k1=(P++(A1++B1)).length:=by rw[Zb,Zb,HA.out.1,hk1];have:=HB.out;omega
     have g1:∃h:k1<M.length,M[k1]'h=v:=⟨by rw[<-hM,hu];simp,by simp only[<-hM,hu];simp⟩
     have g2:∃h:kk<M.length,M[kk]'h=y:=by
      have h0:M=((P++(A1++B1))++[v])++y::(B2++Q):=by rw[<-hM];simp
      have h1:kk=((P++(A1++B1))++[v]).length:=by rw[HK1.out.1,hu];simp only[Zb,Ze,Zg]
      exact⟨by rw[h0,h1];simp,by simp only[h0,h1];simp⟩
     have lx1:Sem.run Tryz.prog (loadCellsFrom ⟨blk,off+k1*k,none⟩ 0 k #[]) wr.drew=.ok (enc v).toArray wr.drew:=load_at HG.out hMl _ g1 ⟨wr.drew,hs4.drew⟩;have ly1:Sem.run Tryz.prog (loadCellsFrom ⟨blk,off+kk*k,none⟩ 0 k #[]) wr.drew=.ok (enc y).toArray wr.drew:=load_at HG.out hMl _ g2 ⟨wr.drew,hs4.drew⟩;have s1:=hs4.st1 HG.out hMl Tryz.prog kk g2.1 v;have s2:=hs4.st2 HG.out hMl Tryz.prog kk k1 g2.1 g1.1 v y;have HS:Hid (SL enc k w0 blk off (P++(A1++(B1++y::((v::B2)++Q)))) ((wr.drew.setCells blk (off+kk*k) (enc v)).setCells blk (off+k1*k) (enc y))):=by
      rw[<-hM] at hs4;have:=hs4.swapped' HG.out
      rw[show (P++(A1++B1)).length+1+([]:List α).length=kk by have:=HK1.out;simp only[Zg];omega,<-hu] at this
      show SL _ _ _ _ _ _ _;have e:(P++(A1++B1))++y::([]++v::(B2++Q))=P++(A1++(B1++y::((v::B2)++Q))):=by simp
      rwa [<-e]
     have kx:(enc v).length=k:=HG.out.hk v;have ky:(enc y).length=k:=HG.out.hk y;clear hs2 hs3 hs4 hM hMl hu g1 g2;obtain⟨cx,hcx⟩:∃cx,cx=enc v:=⟨_,rfl⟩;obtain⟨cy,hcy⟩:∃cy,cy=enc y:=⟨_,rfl⟩;rw[<-hcx] at lx1 s1 s2 kx;rw[<-hcy] at ly1 s2 ky;rw[<-hcx,<-hcy] at HS;have HKE:=Hd hk1;clear hcx hcy hk1;go_wp2_with fail
     go_big_region_o
     all_goals go_wp2
     refine⟨⟨k1,B1,v::B2,rfl,?_,HS.out⟩,?_⟩
     ·have h1:=HK.out
      exact⟨by rw[h1.1];simp,HKE.out⟩
     ·have:=HK1.out;simp only[intOf,Int.toNat_natCast];omega
end
end Ed
end
section
namespace Ed
section
variable {α:Type} [Inhabited α] {enc:α->List Value} {k:Nat} {w0:World} {blk off:Nat}
def SymOk (gf:Nat) (enc:α->List Value) (k:Nat) (cf:α->α->Int) (w0:World) (blk off n cap N:Nat):Prop :=
 ∀(P X Y Q:List α) (a m b:Nat) (W:World),X.length+Y.length<N->(P++(X++(Y++Q))).length=n->P.length=a->a+X.length=m->m+Y.length=b->0<X.length->0<Y.length->Srt.Sorted (ltC cf) X->Srt.Sorted (ltC cf) Y->SL enc k w0 blk off (P++(X++(Y++Q))) W ->
  Calls Tryz.prog 128 #[.slice (some ⟨blk,off,none⟩) n cap,.int .i64 a,.int .i64 m,.int .i64 b,.func (.func gf) #[] #[]] W fun e w'=>e=.returned (.tuple #[])/\∃Z,Srt.St (ltC cf) Z (X++Y)/\SL enc k w0 blk off (P++(Z++Q)) w'
end
end Ed
end
end Go.Proofs.YtgmbefolgppmdaaGreat
