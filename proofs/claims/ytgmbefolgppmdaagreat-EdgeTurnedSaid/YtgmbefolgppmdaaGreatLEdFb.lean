/- Sorting a row of records: two neighbouring rows in order, brought together in place: the middle lies in the second. -/
import Derived.Test.YtgmbefolgppmdaaGreatLEdB
import Derived.Test.YtgmbefolgppmdaaGreatLAli
import Derived.Test.YtgmbefolgppmdaaGreatLEdFa
import Derived.Test.YtgmbefolgppmdaaGreatLSrtFb
namespace Go.Proofs.YtgmbefolgppmdaaGreat
open Go.RowKit Go.Shelf Go.Sort
set_option maxRecDepth 100000
section
namespace Ed
section
variable {α:Type} [Inhabited α] {enc:α->List Value} {k:Nat} {w0:World} {blk off:Nat}
set_option maxHeartbeats 20000000 in
theorem symMerge_Fb {n:Nat} (g:SG enc k w0 blk off n) (aE:∀w,(isAgg 45).run Tryz.prog w=.ok true w) (zE:∀w,(Go.sizeOf 45).run Tryz.prog w=.ok k w) (hn:n<=1000000) (cap:Nat)
  (gf:Nat) (eg:∀args w,(callFunc gf args).run Tryz.prog w=.ok (.enter gf args) w) (cf:α->α->Int) (hC:CmpOk gf enc k cf w0 blk off n) (ho:Srt.Ord (ltC cf))
  (P X Y Q:List α) (a m b:Nat) (ih:SymOk gf enc k cf w0 blk off n cap (X.length+Y.length)) (hl:(P++(X++(Y++Q))).length=n) (ha:P.length=a) (hm:a+X.length=m) (hb:m+Y.length=b) (hx2:2<=X.length) (hy2:2<=Y.length)
  (hX:Srt.Sorted (ltC cf) X) (hY:Srt.Sorted (ltC cf) Y) (hcase:m<=(a+b) / 2) (W:World) (hs:SL enc k w0 blk off (P++(X++(Y++Q))) W) :
  Calls Tryz.prog 128 #[.slice (some ⟨blk,off,none⟩) n cap,.int .i64 a,.int .i64 m,.int .i64 b,.func (.func gf) #[] #[]] W fun e w'=>e=.returned (.tuple #[])/\∃Z,Srt.St (ltC cf) Z (X++Y)/\SL enc k w0 blk off (P++(Z++Q)) w':=by
 have mixed:Tryz.prog.follows .mixedOrders=true:=by kernel_rfl
 have HROT:=Hd (@rotate_any α _ enc k w0 blk off n g aE zE hn cap (.func (.func gf) #[] #[]));have HG:=Hd g;have HO:=Hd ho;have HCC:=Hd hC;have HX:=Hd hX;have HY:=Hd hY;have HIH:=Hd ih;have HA:=Hd (And.intro ha (And.intro hm (And.intro hb (And.intro hx2 hy2))));obtain⟨L,hL⟩:=Zq (P++(X++(Y++Q)));rw[hL] at hl hs;have HL:=Hd (And.intro hL hl);have hbn:(b:Int)<=n:=by rw[<-hl,<-hL];simp only[Zb];omega
 have hmb:(m:Int)<b:=by omega
 have ham:(a:Int)<m:=by omega
 have hnn:(n:Int)<=1000000:=by omega
 obtain⟨xl,hxl⟩:∃xl,xl=X.length:=⟨_,rfl⟩;obtain⟨yl,hyl⟩:∃yl,yl=Y.length:=⟨_,rfl⟩;have w1:IntKind.i64.wrap ((m:Int)-a)=(xl:Int):=by rw[IntWalk.i64_in _ (by omega)];omega
 have w1':IntKind.i64.wrap ((b:Int)-m)=(yl:Int):=by rw[IntWalk.i64_in _ (by omega)];omega
 have x1:xl≠1:=by omega
 have x2:((xl:Int) == 1)=false:=by simp;omega
 have x3:((xl:Int)=1)=False:=by simp;omega
 have y1:yl≠1:=by omega
 have y2:((yl:Int) == 1)=false:=by simp;omega
 have y3:((yl:Int)=1)=False:=by simp;omega
 obtain⟨sm,mid,hsm,hmid,wA,wB,wC⟩:=mid_num (i:=a) (j:=b) (by omega)
 obtain⟨nn,hnn'⟩:∃nn,nn=mid+m:=⟨_,rfl⟩;obtain⟨pp,hpp⟩:∃pp,pp=mid+m-1:=⟨_,rfl⟩;have w2:IntKind.i64.wrap ((mid:Int)+m)=(nn:Int):=by rw[IntWalk.i64_in _ (by omega)];omega
 have w3:IntKind.i64.wrap ((nn:Int)-1)=(pp:Int):=by rw[IntWalk.i64_in _ (by omega)];omega
 have HM:Hid (mid=(a+b) / 2/\nn=mid+m/\pp+1=mid+m/\a<mid/\mid<b):=⟨hmid,hnn',by omega,by omega,by omega⟩
 have GLX:Hid (∀t,t<X.length->∃h:a+t<L.length,L[a+t]'h=X[t]!):=by
  intro t ht;have hlt:a+t<L.length:=by rw[hl];omega
  refine⟨hlt,?_⟩;simp only[<-hL];rw[Zs (by omega),Zt (by omega)]
  simp only[getElem!_pos X t ht];congr 1;omega
 have GLY:Hid (∀t,t<Y.length->∃h:m+t<L.length,L[m+t]'h=Y[t]!):=by
  intro t ht;have hlt:m+t<L.length:=by rw[hl];omega
  refine⟨hlt,?_⟩;have h0:L=(P++X)++(Y++Q):=by rw[<-hL];simp
  simp only[h0];rw[Zs (by simp;omega),Zt (by simp;omega)]
  simp only[getElem!_pos Y t ht];congr 1;simp;omega
 haveI:Nonempty (InSL enc k w0 blk off L):=⟨⟨_,hs⟩⟩
 clear g hn ho hC hX hY ih ha hm hb hx2 hy2 hl hL hxl hyl hsm hmid hnn' hpp;obtain⟨hh,hhh⟩:∃hh,hh=mid-a:=⟨_,rfl⟩;have hc:m<=mid:=by have:=HM.out;omega
 have hcz:¬((mid:Int)<m):=by omega
 obtain⟨st0,hst⟩:=Zq a;obtain⟨r0,hr0⟩:=Zq m;have HB:Hid (a<=st0/\st0<=r0/\r0-a<=X.length/\r0-a<=hh/\hh<=st0-a+Y.length/\(st0-a=0\/hh=st0-a+Y.length)/\(r0-a=X.length\/r0-a=hh)/\hh+a=mid/\r0<=n):=by have:=HM.out;have:=HA.out;exact⟨by omega,by omega,by omega,by omega,by omega,by omega,by omega,by omega,by omega⟩
 have HR0:=Hd hr0.symm;have HS0:=Hd hst.symm;clear hc hst hhh hr0 hcase
 go_enter Tryz.func128,Tryz.ntmps128
 go_wp2
 go_loopw [20,21] (fun vi vj wr=>∃i j:Nat,vi=.int .i64 i/\vj=.int .i64 j/\Hid (st0<=i/\i<=j/\j<=r0/\(∀c,st0-a<=c->c<i-a->ltC cf Y[hh-1-c]! X[c]! = false)/\(∀c,j-a<=c->c<r0-a->ltC cf Y[hh-1-c]! X[c]! = true))/\SL enc k w0 blk off L wr) (fun vi vj _=>(intOf vj).toNat-(intOf vi).toNat)
 case atStart=>exact⟨st0,r0,by first|rfl|rw[<-HS0.out],by first|rfl|rw[<-HR0.out],Hd ⟨Zh _,by have:=HB.out;omega,Zh _,fun c h1 h2=>by omega,fun c h1 h2=>by omega⟩,hs⟩
 case round =>
  obtain⟨i,j,rfl,rfl,HI,hs1⟩:=hrel;by_cases hlt:i<j
  ·have hltz:(i:Int)<(j:Int):=by omega
   obtain⟨s,c,hs',hc',vA,vB,vC⟩:=mid_num (i:=i) (j:=j) (by have:=HI.out;have:=HB.out;omega)
   obtain⟨pc,hpc⟩:∃pc,pc=pp-c:=⟨_,rfl⟩;have HH:Hid (c=(i+j) / 2/\i<j/\a<=c/\c-a<X.length/\pc=m+(hh-1-(c-a))/\hh-1-(c-a)<Y.length/\c<r0/\c-a<hh/\st0<=c):=by
    have:=HI.out;have:=HA.out;have:=HB.out;have:=HM.out
    exact⟨hc',hlt,by omega,by omega,by omega,by omega,by omega,by omega,by omega⟩
   have v1:IntKind.i64.wrap ((pp:Int)-c)=(pc:Int):=by have:=HH.out;have:=HM.out;have:=HB.out;rw[IntWalk.i64_in _ (by omega)];omega
   have v2:IntKind.i64.wrap ((c:Int)+1)=((c+1:Nat):Int):=by have:=HH.out;have:=HA.out;have:=HB.out;rw[IntWalk.i64_in _ (by omega)];omega
   obtain⟨x,hx⟩:∃x,X[c-a]! = x:=⟨_,rfl⟩;obtain⟨y,hy⟩:∃y,Y[hh-1-(c-a)]! = y:=⟨_,rfl⟩;have bc:(c:Int)<n:=by have:=HH.out;have:=HA.out;omega
   have bp:(pc:Int)<n:=by have:=HH.out;have:=HA.out;omega
   have lx:∀p:InSL enc k w0 blk off L,Sem.run Tryz.prog (loadCellsFrom ⟨blk,off+c*k,none⟩ 0 k #[]) p.W=.ok (enc x).toArray p.W:=fun p=>by
    have h1:=GLX.out (c-a) HH.out.2.2.2.1;rw[hx] at h1;refine load_at HG.out HL.out.2 _ ?_ p;have h2:=HH.out.2.2.1;obtain⟨h3,h4⟩:=h1;have e:a+(c-a)=c:=by omega
    simp only[e] at h3 h4;exact⟨h3,h4⟩
   have ly:∀p:InSL enc k w0 blk off L,Sem.run Tryz.prog (loadCellsFrom ⟨blk,off+pc*k,none⟩ 0 k #[]) p.W=.ok (enc y).toArray p.W:=fun p=>by
    have h1:=GLY.out (hh-1-(c-a)) HH.out.2.2.2.2.2.1;rw[hy] at h1;refine load_at HG.out HL.out.2 _ ?_ p;rw[HH.out.2.2.2.2.1];exact h1
   have HCQ:=Hd (fun p=>HCC.out.quiet HL.out.2 y x p)
   have HYY:=Hd (And.intro hx hy);clear hs' hc' hlt hx hy hpc;by_cases hlv:cf y x<0
   ·go_wp2_with fail
    refine zK mixed (by kernel_rfl) hs1 ?_
    repeat (quiet_step (first|(go_at_fn gf;exact HCQ.out _)))
    refine wpQuiet_nil ?_;rintro wq ⟨p,rfl⟩;have HLV:=Hd hlv;go_wp2
    refine⟨⟨i,c,rfl,rfl,?_,p.h⟩,?_⟩
    ·obtain⟨a1,a2,a3,a4,a5,a6,a7,a8,a9⟩:=HH.out
     obtain⟨b1,b2,b3,b4,b5⟩:=HI.out;refine⟨b1,by omega,by omega,b4,fun t ht ht2=>?_⟩
     have e:ltC cf Y[hh-1-(c-a)]! X[c-a]! = true:=by rw[HYY.out.1,HYY.out.2];exact zM HLV.out
     rcases Nat.lt_or_ge (c-a) t with hj|hj
     ·have hxl:=HB.out
      exact HO.out.lt_of (HO.out.lt_of' e (Srt.sorted_get HY.out (show hh-1-t<hh-1-(c-a) by omega) a6)) (Srt.sorted_get HX.out hj (by omega))
     ·rw[show t=c-a by omega];exact e
    ·have:=HH.out;simp only[intOf,Int.toNat_natCast];omega
   ·go_wp2_with fail
    refine zK mixed (by kernel_rfl) hs1 ?_
    repeat (quiet_step (first|(go_at_fn gf;exact HCQ.out _)))
    refine wpQuiet_nil ?_;rintro wq ⟨p,rfl⟩;have HLV:=Hd hlv;have hd:decide (cf y x<0)=false:=zL (by omega)
    go_wp2
    ·refine⟨⟨c+1,j,rfl,rfl,?_,p.h⟩,?_⟩
     ·obtain⟨a1,a2,a3,a4,a5,a6,a7,a8,a9⟩:=HH.out
      obtain⟨b1,b2,b3,b4,b5⟩:=HI.out;refine⟨by omega,by omega,b3,fun t ht ht2=>?_,b5⟩
      have e:ltC cf Y[hh-1-(c-a)]! X[c-a]! = false:=by rw[HYY.out.1,HYY.out.2];exact zL (Int.not_lt.2 HLV.out)
      rcases Nat.lt_or_ge t (c-a) with hj|hj
      ·have hyl:=HB.out
       exact HO.out.trans (HO.out.trans (Srt.sorted_get HY.out (show hh-1-(c-a)<hh-1-t by omega) (by omega)) e) (Srt.sorted_get HX.out hj a4)
      ·rw[show t=c-a by omega];exact e
     ·have:=HH.out;simp only[intOf,Int.toNat_natCast];omega
    ·rename_i hq;rw[hd] at hq;exact absurd hq (by decide)
  ·have hltz:¬((i:Int)<(j:Int)):=by omega
   obtain⟨s,hsi⟩:∃s,s=i:=⟨_,rfl⟩;rw[<-hsi] at hltz;obtain⟨u,hu⟩:∃u,u=s-a:=⟨_,rfl⟩;obtain⟨en,hen⟩:∃en,en=mid+m-s:=⟨_,rfl⟩;have hcut:=Srt.sym_cut HO.out HX.out HY.out (h:=hh) (u:=u) (lo:=st0-a) (hi:=r0-a) (by have:=HI.out;omega) (by have:=HI.out;omega) (by have:=HB.out;omega) (by have:=HB.out;omega) (by have:=HB.out;omega) (by have:=HB.out;omega) (by have:=HB.out;omega) (by rw[hu,hsi];exact HI.out.2.2.2.1) (by rw[hu,hsi];have h:=HI.out.2.2.2.2;have h2:=HI.out;rw[show j=i by omega] at h;exact h)
   obtain⟨X1,hX1⟩:=Zq (X.take u);obtain⟨X2,hX2⟩:=Zq (X.drop u);obtain⟨Y1,hY1⟩:=Zq (Y.take (hh-u));obtain⟨Y2,hY2⟩:=Zq (Y.drop (hh-u));rw[hX1,hX2,hY1,hY2] at hcut;have HE:Hid (X=X1++X2/\Y=Y1++Y2/\(∀a∈X1,∀d∈Y2,ltC cf d a=false)/\(∀b∈Y1,∀a∈X2,ltC cf b a=true)):=⟨by rw[<-hX1,<-hX2,List.take_append_drop],by rw[<-hY1,<-hY2,List.take_append_drop],hcut.1,hcut.2⟩
   have HN:Hid (a+X1.length=s/\s+X2.length=m/\m+Y1.length=en/\en+Y2.length=b/\s+Y1.length=mid/\mid+X2.length=en/\X1.length+X2.length=X.length/\Y1.length+Y2.length=Y.length):=by
    have:=HI.out;have:=HB.out;have:=HM.out;have:=HA.out
    rw[<-hX1,<-hX2,<-hY1,<-hY2,List.length_take,List.length_drop,List.length_take,List.length_drop];exact⟨by omega,by omega,by omega,by omega,by omega,by omega,by omega,by omega⟩
   have HT:Hid (Srt.Sorted (ltC cf) X1/\Srt.Sorted (ltC cf) X2/\Srt.Sorted (ltC cf) Y1/\Srt.Sorted (ltC cf) Y2):=by
    refine⟨?_,?_,?_,?_⟩
    ·rw[<-hX1];exact HX.out.sub (List.take_sublist _ _)
    ·rw[<-hX2];exact HX.out.sub (List.drop_sublist _ _)
    ·rw[<-hY1];exact HY.out.sub (List.take_sublist _ _)
    ·rw[<-hY2];exact HY.out.sub (List.drop_sublist _ _)
   have v3:IntKind.i64.wrap ((nn:Int)-s)=(en:Int):=by have:=HN.out;have:=HM.out;rw[IntWalk.i64_in _ (by omega)];omega
   have HS:=Hd hs1;clear hs hs1 hlt hu hen hcut hX1 hX2 hY1 hY2;subst hsi;by_cases c1:s<m
   ·have d1:(s:Int)<m:=by omega
    have d5:(mid:Int)<en:=by have:=HN.out;omega
    by_cases c2:m<en
    ·have d2:(m:Int)<en:=by omega
     have d4:(s:Int)<mid:=by have:=HN.out;omega
     by_cases c3:a<s
     ·have d3:(a:Int)<s:=by omega
      by_cases c4:en<b
      ·have d6:(en:Int)<b:=by omega
       go_wp2_with fail
       refine (HROT.out (P++X1) X2 Y1 (Y2++Q) s m en (by have:=HN.out;have h:=HL.out;rw[<-h.2,<-h.1,HE.out.1,HE.out.2.1];simp) (by have:=HN.out;have:=HA.out;simp only[Zb];omega) (by have:=HN.out;have:=HA.out;simp only[Zb];omega) (by have:=HN.out;omega) (by have:=HN.out;omega) (by have:=HN.out;omega) _ (by have h:=HS.out;rw[<-HL.out.1,HE.out.1,HE.out.2.1] at h;simpa using h)).mono ?_
       rintro e wa ⟨rfl,hs2⟩;replace hs2:Hid (SL enc k w0 blk off (P++(X1++(Y1++(X2++(Y2++Q))))) wa):=by show SL _ _ _ _ _ _ _;simpa using hs2
       go_wp2_with fail
       refine (HIH.out P X1 Y1 (X2++(Y2++Q)) a s mid _ (by have:=HN.out;have:=HA.out;have:=HM.out;omega) (by have h:=HL.out;rw[<-h.2,<-h.1,HE.out.1,HE.out.2.1];simp only[Zb];omega) HA.out.1 (by have:=HN.out;omega) (by have:=HN.out;omega) (by have:=HN.out;omega) (by have:=HN.out;omega) HT.out.1 HT.out.2.2.1 hs2.out).mono ?_
       rintro e wb ⟨rfl,Z1,hz1,hs3⟩;replace hs3:=Hd hs3;have HZ1:=Hd hz1;clear hz1;have HLZ:Hid (Z1.length=X1.length+Y1.length):=by have:=HZ1.out.len HO.out;rw[Zb] at this;exact this
       go_wp2_with fail
       refine (HIH.out (P++Z1) X2 Y2 Q mid en b _ (by have:=HN.out;have:=HA.out;have:=HM.out;omega) (by have h:=HL.out;have:=HLZ.out;rw[<-h.2,<-h.1,HE.out.1,HE.out.2.1];simp only[Zb];omega) (by have:=HN.out;have:=HLZ.out;have:=HA.out;simp only[Zb];omega) (by have:=HN.out;omega) (by have:=HN.out;omega) (by have:=HN.out;omega) (by have:=HN.out;omega) HT.out.2.1 HT.out.2.2.2 (by have h:=hs3.out;simpa using h)).mono ?_
       rintro e wc ⟨rfl,Z2,hz2,hs4⟩;replace hs4:=Hd hs4;have HZ2:=Hd hz2;clear hz2;go_wp2_with fail
       go_end0
       refine⟨rfl,Z1++Z2,?_,by have h:=hs4.out;simpa using h⟩
       have hx:=HX.out;have hy:=HY.out;rw[HE.out.1] at hx ⊢;rw[HE.out.2.1] at hy ⊢;exact Srt.St.split HO.out hx hy HE.out.2.2.1 HE.out.2.2.2 HZ1.out HZ2.out
      ·have d6:¬((en:Int)<b):=by omega
       go_wp2_with fail
       refine (HROT.out (P++X1) X2 Y1 (Y2++Q) s m en (by have:=HN.out;have h:=HL.out;rw[<-h.2,<-h.1,HE.out.1,HE.out.2.1];simp) (by have:=HN.out;have:=HA.out;simp only[Zb];omega) (by have:=HN.out;have:=HA.out;simp only[Zb];omega) (by have:=HN.out;omega) (by have:=HN.out;omega) (by have:=HN.out;omega) _ (by have h:=HS.out;rw[<-HL.out.1,HE.out.1,HE.out.2.1] at h;simpa using h)).mono ?_
       rintro e wa ⟨rfl,hs2⟩;replace hs2:Hid (SL enc k w0 blk off (P++(X1++(Y1++(X2++(Y2++Q))))) wa):=by show SL _ _ _ _ _ _ _;simpa using hs2
       go_wp2_with fail
       refine (HIH.out P X1 Y1 (X2++(Y2++Q)) a s mid _ (by have:=HN.out;have:=HA.out;have:=HM.out;omega) (by have h:=HL.out;rw[<-h.2,<-h.1,HE.out.1,HE.out.2.1];simp only[Zb];omega) HA.out.1 (by have:=HN.out;omega) (by have:=HN.out;omega) (by have:=HN.out;omega) (by have:=HN.out;omega) HT.out.1 HT.out.2.2.1 hs2.out).mono ?_
       rintro e wb ⟨rfl,Z1,hz1,hs3⟩;replace hs3:=Hd hs3;have HZ1:=Hd hz1;clear hz1;have HLZ:Hid (Z1.length=X1.length+Y1.length):=by have:=HZ1.out.len HO.out;rw[Zb] at this;exact this
       have HZ2:Hid (Srt.St (ltC cf) (X2++Y2) (X2++Y2)):=by
        have hz:X2=[]\/Y2=[]:=by rcases X2 with _|⟨_,_⟩<;>rcases Y2 with _|⟨_,_⟩<;>first|exact .inl rfl|exact .inr rfl|(exfalso;have:=HN.out;simp only[Ze] at this;omega)
        have h1:=HT.out;rcases hz with hz|hz<;>rw[hz] at h1 ⊢
        ·exact Srt.St.self (by simpa using h1.2.2.2)
        ·exact Srt.St.self (by simpa using h1.2.1)
       go_wp2_with fail
       go_end0
       refine⟨rfl,Z1++(X2++Y2),?_,by have h:=hs3.out;simpa using h⟩
       have hx:=HX.out;have hy:=HY.out;rw[HE.out.1] at hx ⊢;rw[HE.out.2.1] at hy ⊢;exact Srt.St.split HO.out hx hy HE.out.2.2.1 HE.out.2.2.2 HZ1.out HZ2.out
     ·have d3:¬((a:Int)<s):=by omega
      by_cases c4:en<b
      ·have d6:(en:Int)<b:=by omega
       go_wp2_with fail
       refine (HROT.out (P++X1) X2 Y1 (Y2++Q) s m en (by have:=HN.out;have h:=HL.out;rw[<-h.2,<-h.1,HE.out.1,HE.out.2.1];simp) (by have:=HN.out;have:=HA.out;simp only[Zb];omega) (by have:=HN.out;have:=HA.out;simp only[Zb];omega) (by have:=HN.out;omega) (by have:=HN.out;omega) (by have:=HN.out;omega) _ (by have h:=HS.out;rw[<-HL.out.1,HE.out.1,HE.out.2.1] at h;simpa using h)).mono ?_
       rintro e wa ⟨rfl,hs2⟩;replace hs2:Hid (SL enc k w0 blk off (P++(X1++(Y1++(X2++(Y2++Q))))) wa):=by show SL _ _ _ _ _ _ _;simpa using hs2
       obtain⟨Z1,HZ1,hs3⟩:∃Z1,Hid (Srt.St (ltC cf) Z1 (X1++Y1))/\Hid (SL enc k w0 blk off (P++(Z1++(X2++(Y2++Q)))) wa):=by
        refine⟨X1++Y1,?_,?_⟩
        ·have hz:X1=[]\/Y1=[]:=by rcases X1 with _|⟨_,_⟩<;>rcases Y1 with _|⟨_,_⟩<;>first|exact .inl rfl|exact .inr rfl|(exfalso;have:=HN.out;simp only[Ze] at this;omega)
         have h1:=HT.out;rcases hz with hz|hz<;>rw[hz] at h1 ⊢
         ·exact Srt.St.self (by simpa using h1.2.2.1)
         ·exact Srt.St.self (by simpa using h1.1)
        ·have h:=hs2.out;show SL _ _ _ _ _ _ _;simpa using h
       have HLZ:Hid (Z1.length=X1.length+Y1.length):=by have:=HZ1.out.len HO.out;rw[Zb] at this;exact this
       go_wp2_with fail
       refine (HIH.out (P++Z1) X2 Y2 Q mid en b _ (by have:=HN.out;have:=HA.out;have:=HM.out;omega) (by have h:=HL.out;have:=HLZ.out;rw[<-h.2,<-h.1,HE.out.1,HE.out.2.1];simp only[Zb];omega) (by have:=HN.out;have:=HLZ.out;have:=HA.out;simp only[Zb];omega) (by have:=HN.out;omega) (by have:=HN.out;omega) (by have:=HN.out;omega) (by have:=HN.out;omega) HT.out.2.1 HT.out.2.2.2 (by have h:=hs3.out;simpa using h)).mono ?_
       rintro e wc ⟨rfl,Z2,hz2,hs4⟩;replace hs4:=Hd hs4;have HZ2:=Hd hz2;clear hz2;go_wp2_with fail
       go_end0
       refine⟨rfl,Z1++Z2,?_,by have h:=hs4.out;simpa using h⟩
       have hx:=HX.out;have hy:=HY.out;rw[HE.out.1] at hx ⊢;rw[HE.out.2.1] at hy ⊢;exact Srt.St.split HO.out hx hy HE.out.2.2.1 HE.out.2.2.2 HZ1.out HZ2.out
      ·have d6:¬((en:Int)<b):=by omega
       go_wp2_with fail
       refine (HROT.out (P++X1) X2 Y1 (Y2++Q) s m en (by have:=HN.out;have h:=HL.out;rw[<-h.2,<-h.1,HE.out.1,HE.out.2.1];simp) (by have:=HN.out;have:=HA.out;simp only[Zb];omega) (by have:=HN.out;have:=HA.out;simp only[Zb];omega) (by have:=HN.out;omega) (by have:=HN.out;omega) (by have:=HN.out;omega) _ (by have h:=HS.out;rw[<-HL.out.1,HE.out.1,HE.out.2.1] at h;simpa using h)).mono ?_
       rintro e wa ⟨rfl,hs2⟩;replace hs2:Hid (SL enc k w0 blk off (P++(X1++(Y1++(X2++(Y2++Q))))) wa):=by show SL _ _ _ _ _ _ _;simpa using hs2
       obtain⟨Z1,HZ1,hs3⟩:∃Z1,Hid (Srt.St (ltC cf) Z1 (X1++Y1))/\Hid (SL enc k w0 blk off (P++(Z1++(X2++(Y2++Q)))) wa):=by
        refine⟨X1++Y1,?_,?_⟩
        ·have hz:X1=[]\/Y1=[]:=by rcases X1 with _|⟨_,_⟩<;>rcases Y1 with _|⟨_,_⟩<;>first|exact .inl rfl|exact .inr rfl|(exfalso;have:=HN.out;simp only[Ze] at this;omega)
         have h1:=HT.out;rcases hz with hz|hz<;>rw[hz] at h1 ⊢
         ·exact Srt.St.self (by simpa using h1.2.2.1)
         ·exact Srt.St.self (by simpa using h1.1)
        ·have h:=hs2.out;show SL _ _ _ _ _ _ _;simpa using h
       have HLZ:Hid (Z1.length=X1.length+Y1.length):=by have:=HZ1.out.len HO.out;rw[Zb] at this;exact this
       have HZ2:Hid (Srt.St (ltC cf) (X2++Y2) (X2++Y2)):=by
        have hz:X2=[]\/Y2=[]:=by rcases X2 with _|⟨_,_⟩<;>rcases Y2 with _|⟨_,_⟩<;>first|exact .inl rfl|exact .inr rfl|(exfalso;have:=HN.out;simp only[Ze] at this;omega)
        have h1:=HT.out;rcases hz with hz|hz<;>rw[hz] at h1 ⊢
        ·exact Srt.St.self (by simpa using h1.2.2.2)
        ·exact Srt.St.self (by simpa using h1.2.1)
       go_wp2_with fail
       go_end0
       refine⟨rfl,Z1++(X2++Y2),?_,by have h:=hs3.out;simpa using h⟩
       have hx:=HX.out;have hy:=HY.out;rw[HE.out.1] at hx ⊢;rw[HE.out.2.1] at hy ⊢;exact Srt.St.split HO.out hx hy HE.out.2.2.1 HE.out.2.2.2 HZ1.out HZ2.out
    ·have d2:¬((m:Int)<en):=by omega
     have d4:¬((s:Int)<mid):=by have:=HN.out;omega
     have d6:(en:Int)<b:=by have:=HN.out;have:=HA.out;omega
     have d3:(a:Int)<s:=by have:=HN.out;have:=HM.out;omega
     have hs2:Hid (SL enc k w0 blk off (P++(X1++(Y1++(X2++(Y2++Q))))) wr):=by
      have h:=HS.out;have hz:X2=[]\/Y1=[]:=by rcases X2 with _|⟨_,_⟩<;>rcases Y1 with _|⟨_,_⟩<;>first|exact .inl rfl|exact .inr rfl|(exfalso;have:=HN.out;simp only[Ze] at this;omega)
      rw[<-HL.out.1,HE.out.1,HE.out.2.1] at h;show SL _ _ _ _ _ _ _;rcases hz with hz|hz<;>rw[hz] at h ⊢<;>simpa using h
     obtain⟨Z1,HZ1,hs3⟩:∃Z1,Hid (Srt.St (ltC cf) Z1 (X1++Y1))/\Hid (SL enc k w0 blk off (P++(Z1++(X2++(Y2++Q)))) wr):=by
      refine⟨X1++Y1,?_,?_⟩
      ·have hz:X1=[]\/Y1=[]:=by rcases X1 with _|⟨_,_⟩<;>rcases Y1 with _|⟨_,_⟩<;>first|exact .inl rfl|exact .inr rfl|(exfalso;have:=HN.out;simp only[Ze] at this;omega)
       have h1:=HT.out;rcases hz with hz|hz<;>rw[hz] at h1 ⊢
       ·exact Srt.St.self (by simpa using h1.2.2.1)
       ·exact Srt.St.self (by simpa using h1.1)
      ·have h:=hs2.out;show SL _ _ _ _ _ _ _;simpa using h
     have HLZ:Hid (Z1.length=X1.length+Y1.length):=by have:=HZ1.out.len HO.out;rw[Zb] at this;exact this
     go_wp2_with fail
     refine (HIH.out (P++Z1) X2 Y2 Q mid en b _ (by have:=HN.out;have:=HA.out;have:=HM.out;omega) (by have h:=HL.out;have:=HLZ.out;rw[<-h.2,<-h.1,HE.out.1,HE.out.2.1];simp only[Zb];omega) (by have:=HN.out;have:=HLZ.out;have:=HA.out;simp only[Zb];omega) (by have:=HN.out;omega) (by have:=HN.out;omega) (by have:=HN.out;omega) (by have:=HN.out;omega) HT.out.2.1 HT.out.2.2.2 (by have h:=hs3.out;simpa using h)).mono ?_
     rintro e wc ⟨rfl,Z2,hz2,hs4⟩;replace hs4:=Hd hs4;have HZ2:=Hd hz2;clear hz2;go_wp2_with fail
     go_end0
     refine⟨rfl,Z1++Z2,?_,by have h:=hs4.out;simpa using h⟩
     have hx:=HX.out;have hy:=HY.out;rw[HE.out.1] at hx ⊢;rw[HE.out.2.1] at hy ⊢;exact Srt.St.split HO.out hx hy HE.out.2.2.1 HE.out.2.2.2 HZ1.out HZ2.out
   ·have d1:¬((s:Int)<m):=by omega
    have d5:¬((mid:Int)<en):=by have:=HN.out;omega
    have d3:(a:Int)<s:=by have:=HN.out;have:=HA.out;omega
    by_cases c2:m<en
    ·have d2:(m:Int)<en:=by omega
     have d4:(s:Int)<mid:=by have:=HN.out;omega
     have hs2:Hid (SL enc k w0 blk off (P++(X1++(Y1++(X2++(Y2++Q))))) wr):=by
      have h:=HS.out;have hz:X2=[]\/Y1=[]:=by rcases X2 with _|⟨_,_⟩<;>rcases Y1 with _|⟨_,_⟩<;>first|exact .inl rfl|exact .inr rfl|(exfalso;have:=HN.out;simp only[Ze] at this;omega)
      rw[<-HL.out.1,HE.out.1,HE.out.2.1] at h;show SL _ _ _ _ _ _ _;rcases hz with hz|hz<;>rw[hz] at h ⊢<;>simpa using h
     go_wp2_with fail
     refine (HIH.out P X1 Y1 (X2++(Y2++Q)) a s mid _ (by have:=HN.out;have:=HA.out;have:=HM.out;omega) (by have h:=HL.out;rw[<-h.2,<-h.1,HE.out.1,HE.out.2.1];simp only[Zb];omega) HA.out.1 (by have:=HN.out;omega) (by have:=HN.out;omega) (by have:=HN.out;omega) (by have:=HN.out;omega) HT.out.1 HT.out.2.2.1 hs2.out).mono ?_
     rintro e wb ⟨rfl,Z1,hz1,hs3⟩;replace hs3:=Hd hs3;have HZ1:=Hd hz1;clear hz1;have HLZ:Hid (Z1.length=X1.length+Y1.length):=by have:=HZ1.out.len HO.out;rw[Zb] at this;exact this
     have HZ2:Hid (Srt.St (ltC cf) (X2++Y2) (X2++Y2)):=by
      have hz:X2=[]\/Y2=[]:=by rcases X2 with _|⟨_,_⟩<;>rcases Y2 with _|⟨_,_⟩<;>first|exact .inl rfl|exact .inr rfl|(exfalso;have:=HN.out;simp only[Ze] at this;omega)
      have h1:=HT.out;rcases hz with hz|hz<;>rw[hz] at h1 ⊢
      ·exact Srt.St.self (by simpa using h1.2.2.2)
      ·exact Srt.St.self (by simpa using h1.2.1)
     go_wp2_with fail
     go_end0
     refine⟨rfl,Z1++(X2++Y2),?_,by have h:=hs3.out;simpa using h⟩
     have hx:=HX.out;have hy:=HY.out;rw[HE.out.1] at hx ⊢;rw[HE.out.2.1] at hy ⊢;exact Srt.St.split HO.out hx hy HE.out.2.2.1 HE.out.2.2.2 HZ1.out HZ2.out
    ·have d2:¬((m:Int)<en):=by omega
     have d4:¬((s:Int)<mid):=by have:=HN.out;omega
     have hs2:Hid (SL enc k w0 blk off (P++(X1++(Y1++(X2++(Y2++Q))))) wr):=by
      have h:=HS.out;have hz:X2=[]\/Y1=[]:=by rcases X2 with _|⟨_,_⟩<;>rcases Y1 with _|⟨_,_⟩<;>first|exact .inl rfl|exact .inr rfl|(exfalso;have:=HN.out;simp only[Ze] at this;omega)
      rw[<-HL.out.1,HE.out.1,HE.out.2.1] at h;show SL _ _ _ _ _ _ _;rcases hz with hz|hz<;>rw[hz] at h ⊢<;>simpa using h
     obtain⟨Z1,HZ1,hs3⟩:∃Z1,Hid (Srt.St (ltC cf) Z1 (X1++Y1))/\Hid (SL enc k w0 blk off (P++(Z1++(X2++(Y2++Q)))) wr):=by
      refine⟨X1++Y1,?_,?_⟩
      ·have hz:X1=[]\/Y1=[]:=by rcases X1 with _|⟨_,_⟩<;>rcases Y1 with _|⟨_,_⟩<;>first|exact .inl rfl|exact .inr rfl|(exfalso;have:=HN.out;simp only[Ze] at this;omega)
       have h1:=HT.out;rcases hz with hz|hz<;>rw[hz] at h1 ⊢
       ·exact Srt.St.self (by simpa using h1.2.2.1)
       ·exact Srt.St.self (by simpa using h1.1)
      ·have h:=hs2.out;show SL _ _ _ _ _ _ _;simpa using h
     have HLZ:Hid (Z1.length=X1.length+Y1.length):=by have:=HZ1.out.len HO.out;rw[Zb] at this;exact this
     have HZ2:Hid (Srt.St (ltC cf) (X2++Y2) (X2++Y2)):=by
      have hz:X2=[]\/Y2=[]:=by rcases X2 with _|⟨_,_⟩<;>rcases Y2 with _|⟨_,_⟩<;>first|exact .inl rfl|exact .inr rfl|(exfalso;have:=HN.out;simp only[Ze] at this;omega)
      have h1:=HT.out;rcases hz with hz|hz<;>rw[hz] at h1 ⊢
      ·exact Srt.St.self (by simpa using h1.2.2.2)
      ·exact Srt.St.self (by simpa using h1.2.1)
     go_wp2_with fail
     go_end0
     refine⟨rfl,Z1++(X2++Y2),?_,by have h:=hs3.out;simpa using h⟩
     have hx:=HX.out;have hy:=HY.out;rw[HE.out.1] at hx ⊢;rw[HE.out.2.1] at hy ⊢;exact Srt.St.split HO.out hx hy HE.out.2.2.1 HE.out.2.2.2 HZ1.out HZ2.out
end
end Ed
end
section
namespace Ed
section
variable {α:Type} [Inhabited α] {enc:α->List Value} {k:Nat} {w0:World} {blk off:Nat}
theorem symMerge_any {n:Nat} (g:SG enc k w0 blk off n) (aE:∀w,(isAgg 45).run Tryz.prog w=.ok true w) (zE:∀w,(Go.sizeOf 45).run Tryz.prog w=.ok k w) (hn:n<=1000000) (cap:Nat)
  (gf:Nat) (eg:∀args w,(callFunc gf args).run Tryz.prog w=.ok (.enter gf args) w) (cf:α->α->Int) (hC:CmpOk gf enc k cf w0 blk off n) (ho:Srt.Ord (ltC cf)) (N:Nat):SymOk gf enc k cf w0 blk off n cap N:=by
 induction N using Nat.strongRecOn with
 | _ N ih =>
  intro P X Y Q a m b W hN hl ha hm hb hx hy hX hY hs;by_cases h1:X.length=1
  ·obtain⟨x,rfl⟩:=List.length_eq_one_iff.1 h1
   exact symMerge_one g aE zE hn cap gf eg cf hC ho P x Y Q a m b hl ha (by rw[<-hm];rfl) hb hY W hs
  ·by_cases h2:Y.length=1
   ·obtain⟨y,rfl⟩:=List.length_eq_one_iff.1 h2
    exact symMerge_last g aE zE hn cap gf eg cf hC ho P X y Q a m b hl ha hm (by rw[<-hb];rfl) h1 hX W hs
   ·rcases Nat.lt_or_ge ((a+b) / 2) m with hc|hc
    ·exact symMerge_Fa g aE zE hn cap gf eg cf hC ho P X Y Q a m b (ih _ hN) hl ha hm hb (by omega) (by omega) hX hY hc W hs
    ·exact symMerge_Fb g aE zE hn cap gf eg cf hC ho P X Y Q a m b (ih _ hN) hl ha hm hb (by omega) (by omega) hX hY hc W hs
set_option maxHeartbeats 2000000 in
theorem stable_any {n:Nat} (g:SG enc k w0 blk off n) (aE:∀w,(isAgg 45).run Tryz.prog w=.ok true w) (zE:∀w,(Go.sizeOf 45).run Tryz.prog w=.ok k w) (hn:n<=1000000) (cap:Nat)
  (gf:Nat) (eg:∀args w,(callFunc gf args).run Tryz.prog w=.ok (.enter gf args) w) (cf:α->α->Int) (hC:CmpOk gf enc k cf w0 blk off n) (ho:Srt.Ord (ltC cf))
  (l:List α) (hl:l.length=n) (W:World) (hs:SL enc k w0 blk off l W) :
  Calls Tryz.prog 112 #[.slice (some ⟨blk,off,none⟩) n cap,.int .i64 n,.func (.func gf) #[] #[]] W fun e w'=>e=.returned (.tuple #[])/\SL enc k w0 blk off (Srt.srt (ltC cf) l) w':=by
 have HINS:=Hd (@insertion_any α _ enc k w0 blk off n g aE zE hn cap gf eg cf hC ho);have HSYM:=Hd (fun N=>symMerge_any g aE zE hn cap gf eg cf hC ho N)
 have HO:=Hd ho;have hnn:(n:Int)<=1000000:=by omega
 have HLL:=Hd hl;clear g aE zE hn eg hC ho hl
 go_enter Tryz.func112,Tryz.ntmps112
 go_wp2
 go_loopw [7,8] (fun va vb wr=>∃(a b:Nat) (D T:List α),va=.int .i64 a/\vb=.int .i64 b/\Hid (b=a+20/\D.length=a/\Srt.Bk (ltC cf) 20 D/\a+T.length=n/\Srt.Alike (ltC cf) (D++T) l)/\SL enc k w0 blk off (D++T) wr) (fun va _ _=>n-(intOf va).toNat)
 case atStart=>exact⟨0,20,[],l,rfl,rfl,⟨rfl,rfl,.nil,by have:=HLL.out;omega,.refl _⟩,hs⟩
 case round =>
  obtain⟨a,b,D,T,rfl,rfl,HD,hs1⟩:=hrel;by_cases hlt:b<=n
  ·have hltz:(b:Int)<=(n:Int):=by omega
   have w1:IntKind.i64.wrap ((b:Int)+20)=((b+20:Nat):Int):=by rw[IntWalk.i64_in _ (by omega)];omega
   obtain⟨X,hX⟩:=Zq (T.take 20);obtain⟨Q,hQ⟩:=Zq (T.drop 20);have HT:Hid (T=X++Q/\X.length=20/\T.length=20+Q.length):=by
    have:=HD.out
    refine⟨by rw[<-hX,<-hQ,List.take_append_drop],by rw[<-hX,List.length_take];omega,by rw[<-hQ,List.length_drop];omega⟩
   clear hlt hX hQ;go_wp2_with fail
   refine (HINS.out D X Q a b (by have:=HD.out;have h:=HT.out;rw[<-h.1];simp only[Zb];omega) HD.out.2.1 (by have:=HD.out;have:=HT.out;omega) _ (by rw[<-HT.out.1];exact hs1)).mono ?_
   rintro e wa ⟨rfl,hs2⟩;replace hs2:=Hd hs2;go_wp2_with fail
   refine⟨⟨b,b+20,D++Srt.srt (ltC cf) X,Q,rfl,rfl,?_,by have h:=hs2.out;simpa using h⟩,?_⟩
   ·obtain⟨h1,h2,h3,h4,h5⟩:=HD.out
    obtain⟨t1,t2,t3⟩:=HT.out;refine⟨rfl,by rw[Zb,Srt.srt_len];omega,h3.snoc (by rw[Srt.srt_len];exact t2) (Srt.srt_st HO.out X).1,by omega,?_⟩
    rw[List.append_assoc];rw[t1] at h5;exact (Srt.Alike.append (.refl _) (Srt.Alike.append (Srt.srt_st HO.out X).2 (.refl _))).trans h5
   ·have:=HD.out;have:=HT.out;simp only[intOf,Int.toNat_natCast];omega
  ·have hltz:¬((b:Int)<=(n:Int)):=by omega
   have HT:Hid (T.length<20):=by have:=HD.out;show T.length<20;omega
   clear hlt;go_wp2_with fail
   refine (HINS.out D T [] a n (by have:=HD.out;simp only[Zb,Zg];omega) HD.out.2.1 (by have:=HD.out;omega) _ (by simpa using hs1)).mono ?_
   rintro e wa ⟨rfl,hs2⟩;have hs3:SL enc k w0 blk off (D++Srt.srt (ltC cf) T) wa:=by simpa using hs2
   clear hs1 hs2;go_wp2_with fail
   go_loopw [6] (fun vs wr=>∃(bs:Nat) (D T:List α),vs=.int .i64 bs/\Hid (20<=bs/\Srt.Bk (ltC cf) bs D/\T.length<bs/\Srt.Sorted (ltC cf) T/\D.length+T.length=n/\Srt.Alike (ltC cf) (D++T) l)/\SL enc k w0 blk off (D++T) wr) (fun vs _=>n-(intOf vs).toNat)
   case atStart =>
    refine⟨20,D,Srt.srt (ltC cf) T,rfl,?_,hs3⟩;obtain⟨h1,h2,h3,h4,h5⟩:=HD.out;have:=HT.out
    refine⟨Zh _,h3,by rw[Srt.srt_len];exact this,(Srt.srt_st HO.out T).1,by rw[Srt.srt_len];omega,?_⟩
    exact (Srt.Alike.append (.refl _) (Srt.srt_st HO.out T).2).trans h5
   case round =>
    clear hs3 HD HT;obtain⟨bs,D,T,rfl,HD,hs1⟩:=hrel;by_cases hlt:bs<n
    ·have hltz:(bs:Int)<(n:Int):=by omega
     obtain⟨b2,hb2⟩:∃b2,b2=2*bs:=⟨_,rfl⟩;have w1:IntKind.i64.wrap (2*(bs:Int))=(b2:Int):=by rw[IntWalk.i64_in _ (by omega)];omega
     have w2:IntKind.i64.wrap ((bs:Int)*2)=(b2:Int):=by rw[IntWalk.i64_in _ (by omega)];omega
     have HB:=Hd (And.intro hb2 hlt);clear hb2 hlt;go_wp2
     go_loopw [7,8] (fun va vb wr=>∃(a b:Nat) (E D:List α),va=.int .i64 a/\vb=.int .i64 b/\Hid (b=a+b2/\E.length=a/\Srt.Bk (ltC cf) b2 E/\Srt.Bk (ltC cf) bs D/\a+D.length+T.length=n/\Srt.Alike (ltC cf) (E++(D++T)) l)/\SL enc k w0 blk off (E++(D++T)) wr) (fun va _ _=>n-(intOf va).toNat)
     case atStart =>
      have h:=HD.out;exact⟨0,b2,[],D,rfl,rfl,⟨by omega,rfl,.nil,h.2.1,by omega,h.2.2.2.2.2⟩,hs1⟩
     case round =>
      clear hs1;obtain⟨a,b,E,D,rfl,rfl,HE,hs1⟩:=hrel;have HD':Hid (20<=bs/\T.length<bs/\Srt.Sorted (ltC cf) T):=⟨HD.out.1,HD.out.2.2.1,HD.out.2.2.2.1⟩;clear HD;have w3:IntKind.i64.wrap ((a:Int)+bs)=((a+bs:Nat):Int):=by have:=HE.out;rw[IntWalk.i64_in _ (by omega)];omega
      by_cases hlt:b<=n
      ·have hltz:(b:Int)<=(n:Int):=by omega
       obtain⟨m,hm⟩:∃m,m=a+bs:=⟨_,rfl⟩;rw[<-hm] at w3;obtain⟨bb,hbb⟩:∃bb,bb=b+b2:=⟨_,rfl⟩;have w4:IntKind.i64.wrap ((b:Int)+b2)=(bb:Int):=by have:=HE.out;have:=HB.out;rw[IntWalk.i64_in _ (by omega)];omega
       have htwo:=HE.out.2.2.2.1.two (by have:=HE.out;have:=HB.out;have:=HD'.out;omega)
       obtain⟨B1,B2,D',hD,l1,l2,s1,s2,hbk⟩:=htwo;subst hD;have HQ:=Hd (And.intro hm (And.intro hbb (And.intro l1 (And.intro l2 (And.intro s1 (And.intro s2 hbk))))));clear hlt hm hbb l1 l2 s1 s2 hbk;go_wp2_with fail
       refine (HSYM.out (n+1) E B1 B2 (D'++T) a m b _ (by have:=HE.out;have:=HQ.out;simp only[Zb] at *;omega) (by have:=HE.out;simp only[Zb] at *;omega) HE.out.2.1 (by have:=HQ.out;omega) (by have:=HQ.out;have:=HE.out;have:=HB.out;omega) (by have:=HQ.out;have:=HD'.out;omega) (by have:=HQ.out;have:=HD'.out;omega) HQ.out.2.2.2.2.1 HQ.out.2.2.2.2.2.1 (by simpa using hs1)).mono ?_
       rintro e wb ⟨rfl,Z,hz,hs2⟩;replace hs2:=Hd hs2;have HZ:=Hd hz;clear hz;go_wp2_with fail
       refine⟨⟨b,bb,E++Z,D',rfl,rfl,?_,by have h:=hs2.out;simpa using h⟩,?_⟩
       ·obtain⟨h1,h2,h3,h4,h5,h6⟩:=HE.out
        obtain⟨q1,q2,q3,q4,q5,q6,q7⟩:=HQ.out;have hzl:=HZ.out.len HO.out;have hb:=HB.out.1;simp only[Zb] at hzl h5;refine⟨q2,by rw[Zb];omega,h3.snoc (by omega) HZ.out.1,q7,by omega,?_⟩
        rw[List.append_assoc];refine (Srt.Alike.append (.refl _) (Srt.Alike.append HZ.out.2 (.refl _))).trans ?_;simpa using h6
       ·have:=HE.out;have:=HB.out;have:=HD'.out;simp only[intOf,Int.toNat_natCast];omega
      ·have hltz:¬((b:Int)<=(n:Int)):=by omega
       have hless:=HE.out.2.2.2.1.less (by have:=HD'.out;omega) (by have:=HE.out;have:=HB.out;omega)
       obtain⟨m,hm⟩:∃m,m=a+bs:=⟨_,rfl⟩;rw[<-hm] at w3;by_cases hmn:m<n
       ·have hmz:(m:Int)<n:=by omega
        have HQ:Hid (m=a+bs/\D.length=bs/\Srt.Sorted (ltC cf) D/\0<T.length):=by
         have:=HE.out;have:=HD'.out
         rcases hless with rfl|⟨h1,h2⟩
         ·simp only[Zg] at *;omega
         ·exact⟨hm,h1,h2,by omega⟩
        clear hlt hm hmn hless;go_wp2_with fail
        refine (HSYM.out (n+1) E D T [] a m n _ (by have:=HE.out;omega) (by have:=HE.out;simp only[Zb,Zg] at *;omega) HE.out.2.1 (by have:=HQ.out;omega) (by have:=HQ.out;have:=HE.out;omega) (by have:=HQ.out;have:=HD'.out;omega) (by have:=HQ.out;omega) HQ.out.2.2.1 HD'.out.2.2 (by simpa using hs1)).mono ?_
        rintro e wb ⟨rfl,Z,hz,hs2⟩;replace hs2:=Hd hs2;have HZ:=Hd hz;clear hz;go_wp2_with fail
        refine⟨⟨b2,E,Z,rfl,?_,by have h:=hs2.out;simpa using h⟩,?_⟩
        ·obtain⟨h1,h2,h3,h4,h5,h6⟩:=HE.out
         have hzl:=HZ.out.len HO.out;have hb:=HB.out.1;have hd:=HD'.out;have hq:=HQ.out;simp only[Zb] at hzl;refine⟨by omega,h3,by omega,HZ.out.1,by omega,?_⟩
         exact (Srt.Alike.append (.refl _) HZ.out.2).trans h6
        ·have:=HB.out;have:=HD'.out;simp only[intOf,Int.toNat_natCast];omega
       ·have hmz:¬((m:Int)<n):=by omega
        have HQ:Hid (Srt.Sorted (ltC cf) (D++T)/\D.length+T.length<=bs):=by
         have:=HE.out;have hd:=HD'.out
         rcases hless with rfl|⟨h1,h2⟩
         ·exact⟨by simpa using hd.2.2,by simp only[Zg];omega⟩
         ·have h0:T=[]:=List.length_eq_zero_iff.1 (by omega)
          rw[h0,List.append_nil];exact⟨h2,by simp only[Zg];omega⟩
        clear hlt hm hmn hless;replace hs1:=Hd hs1;go_wp2_with fail
        refine⟨⟨b2,E,D++T,rfl,?_,hs1.out⟩,?_⟩
        ·obtain⟨h1,h2,h3,h4,h5,h6⟩:=HE.out
         have hb:=HB.out.1;have hd:=HD'.out;have hq:=HQ.out;refine⟨by omega,h3,by rw[Zb];omega,hq.1,by rw[Zb];omega,h6⟩
        ·have:=HB.out;have:=HD'.out;simp only[intOf,Int.toNat_natCast];omega
    ·have hltz:¬((bs:Int)<(n:Int)):=by omega
     have HR:Hid (D++T=Srt.srt (ltC cf) l):=by
      obtain⟨h1,h2,h3,h4,h5,h6⟩:=HD.out;refine Srt.St.eq_srt HO.out ⟨?_,h6⟩;rcases h2.less (by omega) (by omega) with rfl|⟨e1,e2⟩
      ·simpa using h4
      ·have h0:T=[]:=List.length_eq_zero_iff.1 (by omega)
       rw[h0,List.append_nil];exact e2
     have HS:=Hd hs1;clear hs1 hlt;go_wp2
     go_end0
     exact⟨rfl,by rw[<-HR.out];exact HS.out⟩
set_option maxHeartbeats 1000000 in
theorem sortStable_any {n:Nat} (g:SG enc k w0 blk off n) (aE:∀w,(isAgg 45).run Tryz.prog w=.ok true w) (zE:∀w,(Go.sizeOf 45).run Tryz.prog w=.ok k w) (hn:n<=1000000) (cap:Nat)
  (gf:Nat) (eg:∀args w,(callFunc gf args).run Tryz.prog w=.ok (.enter gf args) w) (cf:α->α->Int) (hC:CmpOk gf enc k cf w0 blk off n) (ho:Srt.Ord (ltC cf))
  (l:List α) (hl:l.length=n) (W:World) (hs:SL enc k w0 blk off l W) :
  Calls Tryz.prog 87 #[.slice (some ⟨blk,off,none⟩) n cap,.func (.func gf) #[] #[]] W fun e w'=>e=.returned (.tuple #[])/\SL enc k w0 blk off (Srt.srt (ltC cf) l) w':=by
 have HC:=Hd (stable_any g aE zE hn cap gf eg cf hC ho l hl W hs);clear hC hs aE zE eg g
 go_enter Tryz.func87,Tryz.ntmps87
 go_wp2_with fail
 refine HC.out.mono ?_;rintro e wa ⟨rfl,hs2⟩;have HS:=Hd hs2;clear hs2;go_wp2_with fail
 go_end0
 exact⟨rfl,HS.out⟩
end
end Ed
end
end Go.Proofs.YtgmbefolgppmdaaGreat
