/- Sorting a row of records: one thing ahead of a row in order. -/
import Derived.Test.YtgmbefolgppmdaaGreatLSrtW
import Derived.Test.YtgmbefolgppmdaaGreatLAli
namespace Go.Proofs.YtgmbefolgppmdaaGreat
open Go.RowKit Go.Shelf Go.Sort
set_option maxRecDepth 100000
section
section
variable {α:Type} [Inhabited α] {enc:α->List Value} {k:Nat} {w0:World} {blk off:Nat}
theorem mid_num {i j:Nat} (h:(i:Int)+j<=4000000):∃s h:Nat,s=i+j/\h=(i+j) / 2/\IntKind.i64.wrap ((i:Int)+j)=(s:Int)/\IntKind.u64.wrap (s:Int)=(s:Int)/\IntKind.i64.wrap ((s:Int) / 2)=(h:Int):=by
 refine⟨i+j,(i+j) / 2,rfl,rfl,?_,?_,?_⟩
 ·rw[IntWalk.i64_in _ (by omega)];omega
 ·simp only[IntKind.wrap,IntKind.signed,IntKind.bits];simp;omega
 ·rw[IntWalk.i64_in _ (by omega)];omega
theorem load_at {l:List α} {n:Nat} (g:SG enc k w0 blk off n) (hn:l.length=n) (P:Program) {i:Nat} {y:α} (h:∃h:i<l.length,l[i]'h=y) (p:InSL enc k w0 blk off l) :
  Sem.run P (loadCellsFrom ⟨blk,off+i*k,none⟩ 0 k #[]) p.W=.ok (enc y).toArray p.W:=by
 obtain⟨h1,h2⟩:=h;have:=p.h.load g hn P i h1
 rwa [h2] at this
set_option maxHeartbeats 2000000 in
theorem symMerge_one {n:Nat} (g:SG enc k w0 blk off n) (aE:∀w,(isAgg 110).run Tryz.prog w=.ok true w) (zE:∀w,(Go.sizeOf 110).run Tryz.prog w=.ok k w) (hn:n<=1000000) (cap:Nat)
  (gf:Nat) (eg:∀args w,(callFunc gf args).run Tryz.prog w=.ok (.enter gf args) w) (cf:α->α->Int) (hC:CmpOk gf enc k cf w0 blk off n) (ho:Srt.Ord (ltC cf))
  (P:List α) (x:α) (Y Q:List α) (a m b:Nat) (hl:(P++(x::(Y++Q))).length=n) (ha:P.length=a) (hm:m=a+1) (hb:m+Y.length=b) (hY:Srt.Sorted (ltC cf) Y)
  (W:World) (hs:SL enc k w0 blk off (P++(x::(Y++Q))) W) :
  Calls Tryz.prog 138 #[.slice (some ⟨blk,off,none⟩) n cap,.int .i64 a,.int .i64 m,.int .i64 b,.func (.func gf) #[] #[]] W fun e w'=>e=.returned (.tuple #[])/\∃Z,Srt.St (ltC cf) Z ([x]++Y)/\SL enc k w0 blk off (P++(Z++Q)) w':=by
 have mixed:Tryz.prog.follows .mixedOrders=true:=by kernel_rfl
 have HG:=Hd g;have HO:=Hd ho;have HCC:=Hd hC;have HY:=Hd hY;have HA:=Hd (And.intro ha (And.intro hm hb));obtain⟨L,hL⟩:∃L,P++(x::(Y++Q))=L:=⟨_,rfl⟩;rw[hL] at hl hs;have HL:=Hd (And.intro hL hl);have hbn:(b:Int)<=n:=by rw[<-hl,<-hL];simp only[Zb,Ze];omega
 have hmb:(m:Int)<=b:=by omega
 have hnn:(n:Int)<=1000000:=by omega
 have w1:IntKind.i64.wrap ((m:Int)-a)=1:=by rw[IntWalk.i64_in _ (by omega)];omega
 have GL:Hid (∀t,t<Y.length->∃h:m+t<L.length,L[m+t]'h=Y[t]!):=by
  intro t ht;have hlt:m+t<L.length:=by rw[hl];omega
  refine⟨hlt,?_⟩;have h0:L=(P++[x])++(Y++Q):=by rw[<-hL];simp
  simp only[h0];rw[Zs (by simp;omega),Zt (by simp;omega)]
  simp only[getElem!_pos Y t ht];congr 1;simp;omega
 have GX:Hid (∃h:a<L.length,L[a]'h=x):=by
  have hlt:a<L.length:=by rw[hl];omega
  refine⟨hlt,?_⟩;simp only[<-hL];rw[Zs (by omega)];simp[ha]
 haveI:Nonempty (InSL enc k w0 blk off L):=⟨⟨_,hs⟩⟩
 clear g ho hC ha hm hb hl hn hY hL
 go_enter Tryz.func138,Tryz.ntmps138
 go_wp2
 go_loopw [10,11] (fun vi vj wr=>∃i j:Nat,vi=.int .i64 i/\vj=.int .i64 j/\Hid (m<=i/\i<=j/\j<=b/\(∀t,t<Y.length->m+t<i->ltC cf Y[t]! x=true)/\(∀t,t<Y.length->j<=m+t->ltC cf Y[t]! x=false))/\SL enc k w0 blk off L wr) (fun vi vj _=>(intOf vj).toNat-(intOf vi).toNat)
 case atStart=>exact⟨m,b,rfl,rfl,Hd ⟨Zh _,by omega,Zh _,fun t _ h=>by omega,fun t h1 h2=>by have:=HA.out;omega⟩,hs⟩
 case round =>
  obtain⟨i,j,rfl,rfl,HI,hs1⟩:=hrel;by_cases hlt:i<j
  ·have hltz:(i:Int)<(j:Int):=by omega
   obtain⟨s,h,hs',hh,wA,wB,wC⟩:=mid_num (i:=i) (j:=j) (by have:=HI.out;omega)
   have w2:IntKind.i64.wrap ((h:Int)+1)=((h+1:Nat):Int):=by have:=HI.out;rw[IntWalk.i64_in _ (by omega)];omega
   have HH:Hid (h=(i+j) / 2/\i<j/\h-m<Y.length/\m<=h):=by have:=HI.out;have:=HA.out;exact⟨hh,hlt,by omega,by omega⟩
   obtain⟨y,hy⟩:∃y,Y[h-m]! = y:=⟨_,rfl⟩;have bh:(h:Int)<n:=by have:=HH.out;have:=HA.out;omega
   have ba:(a:Int)<n:=by have:=HA.out;have:=HH.out;omega
   have lh:∀p:InSL enc k w0 blk off L,Sem.run Tryz.prog (loadCellsFrom ⟨blk,off+h*k,none⟩ 0 k #[]) p.W=.ok (enc y).toArray p.W:=fun p=>by
    have h1:=GL.out (h-m) HH.out.2.2.1;rw[hy] at h1;refine load_at HG.out HL.out.2 _ ?_ p;have h2:=HH.out.2.2.2;obtain⟨h3,h4⟩:=h1;have e:m+(h-m)=h:=by omega
    simp only[e] at h3 h4;exact⟨h3,h4⟩
   have la:∀p:InSL enc k w0 blk off L,Sem.run Tryz.prog (loadCellsFrom ⟨blk,off+a*k,none⟩ 0 k #[]) p.W=.ok (enc x).toArray p.W:=fun p=>load_at HG.out HL.out.2 _ GX.out p
   have HCQ:=Hd (fun p=>HCC.out.quiet HL.out.2 y x p)
   have HYY:=Hd hy;clear hs' hh hlt hy;by_cases hlv:cf y x<0
   ·go_wp2_with fail
    refine zK mixed (by kernel_rfl) hs1 ?_
    repeat (quiet_step (first|(go_at_fn gf;exact HCQ.out _)))
    refine wpQuiet_nil ?_;rintro wq ⟨p,rfl⟩;have HLV:=Hd hlv;go_wp2
    refine⟨⟨h+1,j,rfl,rfl,?_,p.h⟩,?_⟩
    ·obtain⟨a1,a2,a3,a4⟩:=HH.out
     obtain⟨b1,b2,b3,b4,b5⟩:=HI.out;refine⟨by omega,by omega,b3,fun t ht ht2=>?_,b5⟩
     have e:ltC cf Y[h-m]! x=true:=by rw[HYY.out];exact zM HLV.out
     rcases Nat.lt_or_ge t (h-m) with hj|hj
     ·exact HO.out.lt_of' e (Srt.sorted_get HY.out hj a3)
     ·rw[show t=h-m by omega];exact e
    ·have:=HH.out;simp only[intOf,Int.toNat_natCast];omega
   ·go_wp2_with fail
    refine zK mixed (by kernel_rfl) hs1 ?_
    repeat (quiet_step (first|(go_at_fn gf;exact HCQ.out _)))
    refine wpQuiet_nil ?_;rintro wq ⟨p,rfl⟩;have HLV:=Hd hlv;go_wp2
    refine⟨⟨i,h,rfl,rfl,?_,p.h⟩,?_⟩
    ·obtain⟨a1,a2,a3,a4⟩:=HH.out
     obtain⟨b1,b2,b3,b4,b5⟩:=HI.out;refine⟨b1,by omega,by omega,b4,fun t ht ht2=>?_⟩
     have e:ltC cf Y[h-m]! x=false:=by rw[HYY.out];exact zL (Int.not_lt.2 HLV.out)
     rcases Nat.lt_or_ge (h-m) t with hj|hj
     ·exact HO.out.trans (Srt.sorted_get HY.out hj ht) e
     ·rw[show t=h-m by omega];exact e
    ·have:=HH.out;simp only[intOf,Int.toNat_natCast];omega
  ·have hltz:¬((i:Int)<(j:Int)):=by omega
   obtain⟨i1,hi1⟩:∃i1,i1=i-1:=⟨_,rfl⟩;obtain⟨B1,hB1⟩:=Zq (Y.take (i-m));obtain⟨B2,hB2⟩:=Zq (Y.drop (i-m));have HB:Hid (Y=B1++B2/\a+B1.length=i1/\(∀b∈B1,ltC cf b x=true)/\(∀b∈B2,ltC cf b x=false)):=by
    obtain⟨b1,b2,b3,b4,b5⟩:=HI.out;obtain⟨a1,a2,a3⟩:=HA.out;refine⟨by rw[<-hB1,<-hB2,List.take_append_drop],by rw[<-hB1,List.length_take];omega,?_,?_⟩
    ·rw[<-hB1];exact Srt.all_take fun t h1 h2=>b4 t h1 (by omega)
    ·rw[<-hB2];exact Srt.all_drop fun t h1 h2=>b5 t h1 (by omega)
   have w3:IntKind.i64.wrap ((i:Int)-1)=(i1:Int):=by have:=HI.out;have:=HA.out;rw[IntWalk.i64_in _ (by omega)];omega
   have HI1:Hid (i1+1=i/\i<=b):=by have:=HI.out;have:=HA.out;exact⟨by omega,by omega⟩
   have hs2:SL enc k w0 blk off (P++([]++x::(B1++(B2++Q)))) wr:=by
    rw[<-HL.out.1,HB.out.1] at hs1;simpa using hs1
   clear hlt hB1 hB2 hi1 hs1;go_wp2
   go_loopw [13] (fun vk wr2=>∃(kk:Nat) (B1a B1b:List α),vk=.int .i64 kk/\Hid (B1=B1a++B1b/\kk=a+B1a.length)/\SL enc k w0 blk off (P++(B1a++x::(B1b++(B2++Q)))) wr2) (fun vk _=>i-(intOf vk).toNat)
   case atStart=>exact⟨a,[],B1,rfl,Hd ⟨rfl,rfl⟩,hs2⟩
   case round =>
    obtain⟨kk,B1a,B1b,rfl,HK,hs3⟩:=hrel;rcases B1b with _|⟨y,B1b⟩
    ·have hk:¬((kk:Int)<(i1:Int)):=by
      have h1:=HK.out;have h2:=HB.out.2.1;rw[List.append_nil] at h1;rw[h1.1] at h2;omega
     have HS:=Hd hs3;clear hs2 hs3;go_wp2
     refine bodyPost_ret (results_none rfl _ _ _) rfl ?_;refine⟨rfl,B1++x::B2,?_,?_⟩
     ·have h1:=HB.out
      have hy:=HY.out;rw[h1.1] at hy ⊢;exact Srt.St.insertL HO.out hy h1.2.2.1 h1.2.2.2
     ·have h1:=HK.out.1
      rw[List.append_nil] at h1;rw[h1];simpa using HS.out
    ·have hk:(kk:Int)<(i1:Int):=by
      have h1:=HK.out;have h2:=HB.out.2.1;rw[h1.1] at h2;simp only[Zb,Ze] at h2;omega
     obtain⟨k1,hk1⟩:∃k1,k1=kk+1:=⟨_,rfl⟩;have w4:IntKind.i64.wrap ((kk:Int)+1)=(k1:Int):=by have:=HI1.out;rw[IntWalk.i64_in _ (by omega)];omega
     have b1:(kk:Int)<n:=by have:=HI1.out;omega
     have b2:(k1:Int)<n:=by have:=HI1.out;omega
     obtain⟨M,hM⟩:∃M,(P++B1a)++x::([]++y::(B1b++(B2++Q)))=M:=⟨_,rfl⟩;have hs4:SL enc k w0 blk off M wr:=by rw[<-hM];simpa using hs3
     have hMl:M.length=n:=by
      rw[<-hM,<-HL.out.2,<-HL.out.1,HB.out.1,HK.out.1];simp only[Zb,Ze,Zg];omega
     have hu:kk=(P++B1a).length:=by rw[Zb,HA.out.1];exact HK.out.2
     have g1:∃h:kk<M.length,M[kk]'h=x:=⟨by rw[<-hM,hu];simp,by simp only[<-hM,hu];simp⟩
     have g2:∃h:k1<M.length,M[k1]'h=y:=by
      have h0:M=((P++B1a)++[x])++y::(B1b++(B2++Q)):=by rw[<-hM];simp
      have h1:k1=((P++B1a)++[x]).length:=by rw[hk1,hu];simp only[Zb,Ze,Zg]
      exact⟨by rw[h0,h1];simp,by simp only[h0,h1];simp⟩
     have lx1:Sem.run Tryz.prog (loadCellsFrom ⟨blk,off+kk*k,none⟩ 0 k #[]) wr.drew=.ok (enc x).toArray wr.drew:=load_at HG.out hMl _ g1 ⟨wr.drew,hs4.drew⟩;have ly1:Sem.run Tryz.prog (loadCellsFrom ⟨blk,off+k1*k,none⟩ 0 k #[]) wr.drew=.ok (enc y).toArray wr.drew:=load_at HG.out hMl _ g2 ⟨wr.drew,hs4.drew⟩;have s1:=hs4.st1 HG.out hMl Tryz.prog kk g1.1 y;have s2:=hs4.st2 HG.out hMl Tryz.prog kk k1 g1.1 g2.1 y x;have HS:Hid (SL enc k w0 blk off (P++((B1a++[y])++x::(B1b++(B2++Q)))) ((wr.drew.setCells blk (off+kk*k) (enc y)).setCells blk (off+k1*k) (enc x))):=by
      rw[<-hM] at hs4;have:=hs4.swapped HG.out
      rw[show (P++B1a).length+1+([]:List α).length=k1 by simp only[Zg];omega,<-hu] at this
      show SL _ _ _ _ _ _ _;have e:(P++B1a)++y::([]++x::(B1b++(B2++Q)))=P++((B1a++[y])++x::(B1b++(B2++Q))):=by simp
      rwa [<-e]
     have kx:(enc x).length=k:=HG.out.hk x;have ky:(enc y).length=k:=HG.out.hk y;have HK1:Hid (k1=kk+1/\kk<i1):=⟨hk1,by omega⟩
     clear hs2 hs3 hs4 hk1 hM hMl hu g1 g2;obtain⟨cx,hcx⟩:∃cx,cx=enc x:=⟨_,rfl⟩;obtain⟨cy,hcy⟩:∃cy,cy=enc y:=⟨_,rfl⟩;rw[<-hcx] at lx1 s2 kx;rw[<-hcy] at ly1 s1 s2 ky;rw[<-hcx,<-hcy] at HS;clear hcx hcy;go_wp2_with fail
     go_big_region_o
     all_goals go_wp2
     refine⟨⟨k1,B1a++[y],B1b,rfl,?_,HS.out⟩,?_⟩
     ·have h1:=HK.out;have h2:=HK1.out.1
      exact⟨by rw[h1.1];simp,by rw[h2,h1.2];simp;omega⟩
     ·have:=HK1.out;have:=HI1.out;simp only[intOf,Int.toNat_natCast];omega
end
end
section
section
variable {α:Type} [Inhabited α] {enc:α->List Value} {k:Nat} {w0:World} {blk off:Nat}
set_option maxHeartbeats 2000000 in
theorem symMerge_last {n:Nat} (g:SG enc k w0 blk off n) (aE:∀w,(isAgg 110).run Tryz.prog w=.ok true w) (zE:∀w,(Go.sizeOf 110).run Tryz.prog w=.ok k w) (hn:n<=1000000) (cap:Nat)
  (gf:Nat) (eg:∀args w,(callFunc gf args).run Tryz.prog w=.ok (.enter gf args) w) (cf:α->α->Int) (hC:CmpOk gf enc k cf w0 blk off n) (ho:Srt.Ord (ltC cf))
  (P X:List α) (y:α) (Q:List α) (a m b:Nat) (hl:(P++(X++y::Q)).length=n) (ha:P.length=a) (hm:a+X.length=m) (hb:b=m+1) (h1:X.length≠1) (hX:Srt.Sorted (ltC cf) X)
  (W:World) (hs:SL enc k w0 blk off (P++(X++y::Q)) W) :
  Calls Tryz.prog 138 #[.slice (some ⟨blk,off,none⟩) n cap,.int .i64 a,.int .i64 m,.int .i64 b,.func (.func gf) #[] #[]] W fun e w'=>e=.returned (.tuple #[])/\∃Z,Srt.St (ltC cf) Z (X++[y])/\SL enc k w0 blk off (P++(Z++Q)) w':=by
 have mixed:Tryz.prog.follows .mixedOrders=true:=by kernel_rfl
 have HG:=Hd g;have HO:=Hd ho;have HCC:=Hd hC;have HX:=Hd hX;have HA:=Hd (And.intro ha (And.intro hm hb));obtain⟨L,hL⟩:∃L,P++(X++y::Q)=L:=⟨_,rfl⟩;rw[hL] at hl hs;have HL:=Hd (And.intro hL hl);have hbn:(b:Int)<=n:=by rw[<-hl,<-hL];simp only[Zb,Ze];omega
 have hmb:(m:Int)<=b:=by omega
 have hnn:(n:Int)<=1000000:=by omega
 obtain⟨xl,hxl⟩:∃xl,xl=X.length:=⟨_,rfl⟩;have w1:IntKind.i64.wrap ((m:Int)-a)=(xl:Int):=by rw[IntWalk.i64_in _ (by omega)];omega
 have w1':IntKind.i64.wrap ((b:Int)-m)=1:=by rw[IntWalk.i64_in _ (by omega)];omega
 have x1:xl≠1:=by omega
 have x2:((xl:Int) == 1)=false:=by simp;omega
 have x3:((xl:Int)=1)=False:=by simp;omega
 have GL:Hid (∀t,t<X.length->∃h:a+t<L.length,L[a+t]'h=X[t]!):=by
  intro t ht;have hlt:a+t<L.length:=by rw[hl];omega
  refine⟨hlt,?_⟩;simp only[<-hL];rw[Zs (by omega),Zt (by omega)]
  simp only[getElem!_pos X t ht];congr 1;omega
 have GX:Hid (∃h:m<L.length,L[m]'h=y):=by
  have h0:L=(P++X)++y::Q:=by rw[<-hL];simp
  have h1:m=(P++X).length:=by simp;omega
  exact⟨by rw[h0,h1];simp,by simp only[h0,h1];simp⟩
 haveI:Nonempty (InSL enc k w0 blk off L):=⟨⟨_,hs⟩⟩
 clear g ho hC ha hm hb hl hn hX hL hxl h1
 go_enter Tryz.func138,Tryz.ntmps138
 go_wp2
 go_loopw [14,15] (fun vi vj wr=>∃i j:Nat,vi=.int .i64 i/\vj=.int .i64 j/\Hid (a<=i/\i<=j/\j<=m/\(∀t,t<X.length->a+t<i->ltC cf y X[t]! = false)/\(∀t,t<X.length->j<=a+t->ltC cf y X[t]! = true))/\SL enc k w0 blk off L wr) (fun vi vj _=>(intOf vj).toNat-(intOf vi).toNat)
 case atStart=>exact⟨a,m,rfl,rfl,Hd ⟨Zh _,by have:=HA.out;omega,Zh _,fun t _ h=>by omega,fun t h1 h2=>by have:=HA.out;omega⟩,hs⟩
 case round =>
  obtain⟨i,j,rfl,rfl,HI,hs1⟩:=hrel;by_cases hlt:i<j
  ·have hltz:(i:Int)<(j:Int):=by omega
   obtain⟨s,h,hs',hh,wA,wB,wC⟩:=mid_num (i:=i) (j:=j) (by have:=HI.out;omega)
   have w2:IntKind.i64.wrap ((h:Int)+1)=((h+1:Nat):Int):=by have:=HI.out;rw[IntWalk.i64_in _ (by omega)];omega
   have HH:Hid (h=(i+j) / 2/\i<j/\h-a<X.length/\a<=h):=by have:=HI.out;have:=HA.out;exact⟨hh,hlt,by omega,by omega⟩
   obtain⟨x,hx⟩:∃x,X[h-a]! = x:=⟨_,rfl⟩;have bh:(h:Int)<n:=by have:=HH.out;have:=HA.out;omega
   have ba:(m:Int)<n:=by have:=HA.out;omega
   have lh:∀p:InSL enc k w0 blk off L,Sem.run Tryz.prog (loadCellsFrom ⟨blk,off+h*k,none⟩ 0 k #[]) p.W=.ok (enc x).toArray p.W:=fun p=>by
    have h1:=GL.out (h-a) HH.out.2.2.1;rw[hx] at h1;refine load_at HG.out HL.out.2 _ ?_ p;have h2:=HH.out.2.2.2;obtain⟨h3,h4⟩:=h1;have e:a+(h-a)=h:=by omega
    simp only[e] at h3 h4;exact⟨h3,h4⟩
   have la:∀p:InSL enc k w0 blk off L,Sem.run Tryz.prog (loadCellsFrom ⟨blk,off+m*k,none⟩ 0 k #[]) p.W=.ok (enc y).toArray p.W:=fun p=>load_at HG.out HL.out.2 _ GX.out p
   have HCQ:=Hd (fun p=>HCC.out.quiet HL.out.2 y x p)
   have HYY:=Hd hx;clear hs' hh hlt hx;by_cases hlv:cf y x<0
   ·go_wp2_with fail
    refine zK mixed (by kernel_rfl) hs1 ?_
    repeat (quiet_step (first|(go_at_fn gf;exact HCQ.out _)))
    refine wpQuiet_nil ?_;rintro wq ⟨p,rfl⟩;have HLV:=Hd hlv;go_wp2
    refine⟨⟨i,h,rfl,rfl,?_,p.h⟩,?_⟩
    ·obtain⟨a1,a2,a3,a4⟩:=HH.out
     obtain⟨b1,b2,b3,b4,b5⟩:=HI.out;refine⟨b1,by omega,by omega,b4,fun t ht ht2=>?_⟩
     have e:ltC cf y X[h-a]! = true:=by rw[HYY.out];exact zM HLV.out
     rcases Nat.lt_or_ge (h-a) t with hj|hj
     ·exact HO.out.lt_of e (Srt.sorted_get HX.out hj ht)
     ·rw[show t=h-a by omega];exact e
    ·have:=HH.out;simp only[intOf,Int.toNat_natCast];omega
   ·go_wp2_with fail
    refine zK mixed (by kernel_rfl) hs1 ?_
    repeat (quiet_step (first|(go_at_fn gf;exact HCQ.out _)))
    refine wpQuiet_nil ?_;rintro wq ⟨p,rfl⟩;have HLV:=Hd hlv;have hd:decide (cf y x<0)=false:=zL (by omega)
    go_wp2
    ·refine⟨⟨h+1,j,rfl,rfl,?_,p.h⟩,?_⟩
     ·obtain⟨a1,a2,a3,a4⟩:=HH.out
      obtain⟨b1,b2,b3,b4,b5⟩:=HI.out;refine⟨by omega,by omega,b3,fun t ht ht2=>?_,b5⟩
      have e:ltC cf y X[h-a]! = false:=by rw[HYY.out];exact zL (Int.not_lt.2 HLV.out)
      rcases Nat.lt_or_ge t (h-a) with hj|hj
      ·exact HO.out.trans e (Srt.sorted_get HX.out hj a3)
      ·rw[show t=h-a by omega];exact e
     ·have:=HH.out;simp only[intOf,Int.toNat_natCast];omega
    ·rename_i hh;rw[hd] at hh;exact absurd hh (by decide)
  ·have hltz:¬((i:Int)<(j:Int)):=by omega
   obtain⟨A1,hA1⟩:=Zq (X.take (i-a));obtain⟨A2,hA2⟩:=Zq (X.drop (i-a));have HB:Hid (X=A1++A2/\a+A1.length=i/\i+A2.length=m/\(∀b∈A1,ltC cf y b=false)/\(∀b∈A2,ltC cf y b=true)):=by
    obtain⟨b1,b2,b3,b4,b5⟩:=HI.out;obtain⟨a1,a2,a3⟩:=HA.out;refine⟨by rw[<-hA1,<-hA2,List.take_append_drop],by rw[<-hA1,List.length_take];omega,by rw[<-hA2,List.length_drop];omega,?_,?_⟩
    ·rw[<-hA1];exact Srt.all_take fun t h1 h2=>b4 t h1 (by omega)
    ·rw[<-hA2];exact Srt.all_drop fun t h1 h2=>b5 t h1 (by omega)
   have HI1:Hid (i<=m):=by have:=HI.out;show i<=m;omega
   have hs2:SL enc k w0 blk off (P++(A1++(A2++y::([]++Q)))) wr:=by
    rw[<-HL.out.1,HB.out.1] at hs1;simpa using hs1
   clear hlt hA1 hA2 hs1;go_wp2
   go_loopw [17] (fun vk wr2=>∃(kk:Nat) (B1 B2:List α),vk=.int .i64 kk/\Hid (A2=B1++B2/\kk=i+B1.length)/\SL enc k w0 blk off (P++(A1++(B1++y::(B2++Q)))) wr2) (fun vk _=>(intOf vk).toNat)
   case atStart=>exact⟨m,A2,[],rfl,Hd ⟨by simp,by have:=HB.out;omega⟩,hs2⟩
   case round =>
    obtain⟨kk,B1,B2,rfl,HK,hs3⟩:=hrel;rcases List.eq_nil_or_concat B1 with rfl|⟨B1,v,rfl⟩
    ·have hk:¬((i:Int)<(kk:Int)):=by have h1:=HK.out.2;simp only[Zg] at h1;omega
     have HS:=Hd hs3;clear hs2 hs3;go_wp2
     refine bodyPost_ret (results_none rfl _ _ _) rfl ?_;refine⟨rfl,A1++y::A2,?_,?_⟩
     ·have h1:=HB.out
      have hy:=HX.out;rw[h1.1] at hy ⊢;exact Srt.St.insert HO.out hy h1.2.2.2.1 h1.2.2.2.2
     ·have h1:=HK.out.1
      rw[Zm] at h1;rw[h1];simpa using HS.out
    ·rw[List.concat_eq_append] at HK hs3
     have hk:(i:Int)<(kk:Int):=by have h1:=HK.out.2;simp only[Zb,Ze,Zg] at h1;omega
     obtain⟨k1,hk1⟩:∃k1,k1=i+B1.length:=⟨_,rfl⟩;have HK1:Hid (kk=k1+1/\kk<=m):=by
      have h1:=HK.out;have h2:=HB.out.2.2.1;rw[h1.1] at h2;simp only[Zb,Ze,Zg] at h1 h2;exact⟨by omega,by omega⟩
     have w4:IntKind.i64.wrap ((kk:Int)-1)=(k1:Int):=by have:=HK1.out;have:=HI1.out;rw[IntWalk.i64_in _ (by omega)];omega
     have b1:(kk:Int)<n:=by have:=HK1.out;have:=HA.out;omega
     have b2:(k1:Int)<n:=by have:=HK1.out;omega
     obtain⟨M,hM⟩:∃M,(P++(A1++B1))++v::([]++y::(B2++Q))=M:=⟨_,rfl⟩;have hs4:SL enc k w0 blk off M wr:=by rw[<-hM];simpa using hs3
     have hMl:M.length=n:=by
      rw[<-hM,<-HL.out.2,<-HL.out.1,HB.out.1,HK.out.1];simp only[Zb,Ze,Zg];omega
     have hu:k1=(P++(A1++B1)).length:=by rw[Zb,Zb,HA.out.1,hk1];have:=HB.out;omega
     have g1:∃h:k1<M.length,M[k1]'h=v:=⟨by rw[<-hM,hu];simp,by simp only[<-hM,hu];simp⟩
     have g2:∃h:kk<M.length,M[kk]'h=y:=by
      have h0:M=((P++(A1++B1))++[v])++y::(B2++Q):=by rw[<-hM];simp
      have h1:kk=((P++(A1++B1))++[v]).length:=by rw[HK1.out.1,hu];simp only[Zb,Ze,Zg]
      exact⟨by rw[h0,h1];simp,by simp only[h0,h1];simp⟩
     have lx1:Sem.run Tryz.prog (loadCellsFrom ⟨blk,off+k1*k,none⟩ 0 k #[]) wr.drew=.ok (enc v).toArray wr.drew:=load_at HG.out hMl _ g1 ⟨wr.drew,hs4.drew⟩;have ly1:Sem.run Tryz.prog (loadCellsFrom ⟨blk,off+kk*k,none⟩ 0 k #[]) wr.drew=.ok (enc y).toArray wr.drew:=load_at HG.out hMl _ g2 ⟨wr.drew,hs4.drew⟩;have s1:=hs4.st1 HG.out hMl Tryz.prog kk g2.1 v;have s2:=hs4.st2 HG.out hMl Tryz.prog kk k1 g2.1 g1.1 v y;have HS:Hid (SL enc k w0 blk off (P++(A1++(B1++y::((v::B2)++Q)))) ((wr.drew.setCells blk (off+kk*k) (enc v)).setCells blk (off+k1*k) (enc y))):=by
      rw[<-hM] at hs4;have:=hs4.swapped' HG.out
      rw[show (P++(A1++B1)).length+1+([]:List α).length=kk by have:=HK1.out;simp only[Zg];omega,<-hu] at this
      show SL _ _ _ _ _ _ _;have e:(P++(A1++B1))++y::([]++v::(B2++Q))=P++(A1++(B1++y::((v::B2)++Q))):=by simp
      rwa [<-e]
     have kx:(enc v).length=k:=HG.out.hk v;have ky:(enc y).length=k:=HG.out.hk y;clear hs2 hs3 hs4 hM hMl hu g1 g2;obtain⟨cx,hcx⟩:∃cx,cx=enc v:=⟨_,rfl⟩;obtain⟨cy,hcy⟩:∃cy,cy=enc y:=⟨_,rfl⟩;rw[<-hcx] at lx1 s1 s2 kx;rw[<-hcy] at ly1 s2 ky;rw[<-hcx,<-hcy] at HS;have HKE:=Hd hk1;clear hcx hcy hk1;go_wp2_with fail
     go_big_region_o
     all_goals go_wp2
     refine⟨⟨k1,B1,v::B2,rfl,?_,HS.out⟩,?_⟩
     ·have h1:=HK.out
      exact⟨by rw[h1.1];simp,HKE.out⟩
     ·have:=HK1.out;simp only[intOf,Int.toNat_natCast];omega
end
end
section
theorem Srt.St.len {α:Type} {lt:α->α->Bool} (ho:Srt.Ord lt) {l' l:List α} (h:Srt.St lt l' l):l'.length=l.length:=by rw[h.eq_srt ho,Srt.srt_len]
section
variable {α:Type} [Inhabited α] {enc:α->List Value} {k:Nat} {w0:World} {blk off:Nat}
def SymOk (gf:Nat) (enc:α->List Value) (k:Nat) (cf:α->α->Int) (w0:World) (blk off n cap N:Nat):Prop :=
 ∀(P X Y Q:List α) (a m b:Nat) (W:World),X.length+Y.length<N->(P++(X++(Y++Q))).length=n->P.length=a->a+X.length=m->m+Y.length=b->0<X.length->0<Y.length->Srt.Sorted (ltC cf) X->Srt.Sorted (ltC cf) Y->SL enc k w0 blk off (P++(X++(Y++Q))) W ->
  Calls Tryz.prog 138 #[.slice (some ⟨blk,off,none⟩) n cap,.int .i64 a,.int .i64 m,.int .i64 b,.func (.func gf) #[] #[]] W fun e w'=>e=.returned (.tuple #[])/\∃Z,Srt.St (ltC cf) Z (X++Y)/\SL enc k w0 blk off (P++(Z++Q)) w'
end
end
end Go.Proofs.YtgmbefolgppmdaaGreat
