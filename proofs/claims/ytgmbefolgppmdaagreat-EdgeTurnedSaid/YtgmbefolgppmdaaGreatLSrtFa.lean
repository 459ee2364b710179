/- Sorting a row of records: two neighbouring rows in order, brought together in place: the middle lies in the first. -/
import Derived.Test.YtgmbefolgppmdaaGreatLSrtD
import Derived.Test.YtgmbefolgppmdaaGreatLAli
namespace Go.Proofs.YtgmbefolgppmdaaGreat
open Go.RowKit Go.Shelf Go.Sort
set_option maxRecDepth 100000
section
variable {α:Type} [Inhabited α] {enc:α->List Value} {k:Nat} {w0:World} {blk off:Nat}
set_option maxHeartbeats 20000000 in
theorem symMerge_Fa {n:Nat} (g:SG enc k w0 blk off n) (aE:∀w,(isAgg 110).run Tryz.prog w=.ok true w) (zE:∀w,(Go.sizeOf 110).run Tryz.prog w=.ok k w) (hn:n<=1000000) (cap:Nat)
  (gf:Nat) (eg:∀args w,(callFunc gf args).run Tryz.prog w=.ok (.enter gf args) w) (cf:α->α->Int) (hC:CmpOk gf enc k cf w0 blk off n) (ho:Srt.Ord (ltC cf))
  (P X Y Q:List α) (a m b:Nat) (ih:SymOk gf enc k cf w0 blk off n cap (X.length+Y.length)) (hl:(P++(X++(Y++Q))).length=n) (ha:P.length=a) (hm:a+X.length=m) (hb:m+Y.length=b) (hx2:2<=X.length) (hy2:2<=Y.length)
  (hX:Srt.Sorted (ltC cf) X) (hY:Srt.Sorted (ltC cf) Y) (hcase:(a+b) / 2<m) (W:World) (hs:SL enc k w0 blk off (P++(X++(Y++Q))) W) :
  Calls Tryz.prog 138 #[.slice (some ⟨blk,off,none⟩) n cap,.int .i64 a,.int .i64 m,.int .i64 b,.func (.func gf) #[] #[]] W fun e w'=>e=.returned (.tuple #[])/\∃Z,Srt.St (ltC cf) Z (X++Y)/\SL enc k w0 blk off (P++(Z++Q)) w':=by
 have mixed:Tryz.prog.follows .mixedOrders=true:=by kernel_rfl
 have HROT:=Hd (@rotate_any α _ enc k w0 blk off n g aE zE hn cap (.func (.func gf) #[] #[]));have HG:=Hd g;have HO:=Hd ho;have HCC:=Hd hC;have HX:=Hd hX;have HY:=Hd hY;have HIH:=Hd ih;have HA:=Hd (And.intro ha (And.intro hm (And.intro hb (And.intro hx2 hy2))));obtain⟨L,hL⟩:=Zq (P++(X++(Y++Q)));rw[hL] at hl hs;have HL:=Hd (And.intro hL hl);have hbn:(b:Int)<=n:=by rw[<-hl,<-hL];simp only[Zb];omega
 have hmb:(m:Int)<b:=by omega
 have ham:(a:Int)<m:=by omega
 have hnn:(n:Int)<=1000000:=by omega
 obtain⟨xl,hxl⟩:∃xl,xl=X.length:=⟨_,rfl⟩;obtain⟨yl,hyl⟩:∃yl,yl=Y.length:=⟨_,rfl⟩;have w1:IntKind.i64.wrap ((m:Int)-a)=(xl:Int):=by rw[IntWalk.i64_in _ (by omega)];omega
 have w1':IntKind.i64.wrap ((b:Int)-m)=(yl:Int):=by rw[IntWalk.i64_in _ (by omega)];omega
 have x1:xl≠1:=by omega
 have x2:((xl:Int) == 1)=false:=by simp;omega
 have x3:((xl:Int)=1)=False:=by simp;omega
 have y1:yl≠1:=by omega
 have y2:((yl:Int) == 1)=false:=by simp;omega
 have y3:((yl:Int)=1)=False:=by simp;omega
 obtain⟨sm,mid,hsm,hmid,wA,wB,wC⟩:=mid_num (i:=a) (j:=b) (by omega)
 obtain⟨nn,hnn'⟩:∃nn,nn=mid+m:=⟨_,rfl⟩;obtain⟨pp,hpp⟩:∃pp,pp=mid+m-1:=⟨_,rfl⟩;have w2:IntKind.i64.wrap ((mid:Int)+m)=(nn:Int):=by rw[IntWalk.i64_in _ (by omega)];omega
 have w3:IntKind.i64.wrap ((nn:Int)-1)=(pp:Int):=by rw[IntWalk.i64_in _ (by omega)];omega
 have HM:Hid (mid=(a+b) / 2/\nn=mid+m/\pp+1=mid+m/\a<mid/\mid<b):=⟨hmid,hnn',by omega,by omega,by omega⟩
 have GLX:Hid (∀t,t<X.length->∃h:a+t<L.length,L[a+t]'h=X[t]!):=by
  intro t ht;have hlt:a+t<L.length:=by rw[hl];omega
  refine⟨hlt,?_⟩;simp only[<-hL];rw[Zs (by omega),Zt (by omega)]
  simp only[getElem!_pos X t ht];congr 1;omega
 have GLY:Hid (∀t,t<Y.length->∃h:m+t<L.length,L[m+t]'h=Y[t]!):=by
  intro t ht;have hlt:m+t<L.length:=by rw[hl];omega
  refine⟨hlt,?_⟩;have h0:L=(P++X)++(Y++Q):=by rw[<-hL];simp
  simp only[h0];rw[Zs (by simp;omega),Zt (by simp;omega)]
  simp only[getElem!_pos Y t ht];congr 1;simp;omega
 haveI:Nonempty (InSL enc k w0 blk off L):=⟨⟨_,hs⟩⟩
 clear g hn ho hC hX hY ih ha hm hb hx2 hy2 hl hL hxl hyl hsm hmid hnn' hpp;obtain⟨hh,hhh⟩:∃hh,hh=mid-a:=⟨_,rfl⟩;have hc:mid<m:=by have:=HM.out;omega
 have hcz:(mid:Int)<m:=by omega
 obtain⟨st0,hst⟩:∃st0,st0=mid+m-b:=⟨_,rfl⟩;obtain⟨r0,hr0⟩:=Zq mid;have w4:IntKind.i64.wrap ((nn:Int)-b)=(st0:Int):=by have:=HM.out;have:=HA.out;rw[IntWalk.i64_in _ (by omega)];omega
 have HB:Hid (a<=st0/\st0<=r0/\r0-a<=X.length/\r0-a<=hh/\hh<=st0-a+Y.length/\(st0-a=0\/hh=st0-a+Y.length)/\(r0-a=X.length\/r0-a=hh)/\hh+a=mid/\r0<=n):=by have:=HM.out;have:=HA.out;exact⟨by omega,by omega,by omega,by omega,by omega,by omega,by omega,by omega,by omega⟩
 have HR0:=Hd hr0.symm;clear hc hst hhh hr0 hcase
 go_enter Tryz.func138,Tryz.ntmps138
 go_wp2
 go_loopw [20,21] (fun vi vj wr=>∃i j:Nat,vi=.int .i64 i/\vj=.int .i64 j/\Hid (st0<=i/\i<=j/\j<=r0/\(∀c,st0-a<=c->c<i-a->ltC cf Y[hh-1-c]! X[c]! = false)/\(∀c,j-a<=c->c<r0-a->ltC cf Y[hh-1-c]! X[c]! = true))/\SL enc k w0 blk off L wr) (fun vi vj _=>(intOf vj).toNat-(intOf vi).toNat)
 case atStart=>exact⟨st0,r0,by first|rfl|rw[<-HS0.out],by first|rfl|rw[<-HR0.out],Hd ⟨Zh _,by have:=HB.out;omega,Zh _,fun c h1 h2=>by omega,fun c h1 h2=>by omega⟩,hs⟩
 case round =>
  obtain⟨i,j,rfl,rfl,HI,hs1⟩:=hrel;by_cases hlt:i<j
  ·have hltz:(i:Int)<(j:Int):=by omega
   obtain⟨s,c,hs',hc',vA,vB,vC⟩:=mid_num (i:=i) (j:=j) (by have:=HI.out;have:=HB.out;omega)
   obtain⟨pc,hpc⟩:∃pc,pc=pp-c:=⟨_,rfl⟩;have HH:Hid (c=(i+j) / 2/\i<j/\a<=c/\c-a<X.length/\pc=m+(hh-1-(c-a))/\hh-1-(c-a)<Y.length/\c<r0/\c-a<hh/\st0<=c):=by
    have:=HI.out;have:=HA.out;have:=HB.out;have:=HM.out
    exact⟨hc',hlt,by omega,by omega,by omega,by omega,by omega,by omega,by omega⟩
   have v1:IntKind.i64.wrap ((pp:Int)-c)=(pc:Int):=by have:=HH.out;have:=HM.out;have:=HB.out;rw[IntWalk.i64_in _ (by omega)];omega
   have v2:IntKind.i64.wrap ((c:Int)+1)=((c+1:Nat):Int):=by have:=HH.out;have:=HA.out;have:=HB.out;rw[IntWalk.i64_in _ (by omega)];omega
   obtain⟨x,hx⟩:∃x,X[c-a]! = x:=⟨_,rfl⟩;obtain⟨y,hy⟩:∃y,Y[hh-1-(c-a)]! = y:=⟨_,rfl⟩;have bc:(c:Int)<n:=by have:=HH.out;have:=HA.out;omega
   have bp:(pc:Int)<n:=by have:=HH.out;have:=HA.out;omega
   have lx:∀p:InSL enc k w0 blk off L,Sem.run Tryz.prog (loadCellsFrom ⟨blk,off+c*k,none⟩ 0 k #[]) p.W=.ok (enc x).toArray p.W:=fun p=>by
    have h1:=GLX.out (c-a) HH.out.2.2.2.1;rw[hx] at h1;refine load_at HG.out HL.out.2 _ ?_ p;have h2:=HH.out.2.2.1;obtain⟨h3,h4⟩:=h1;have e:a+(c-a)=c:=by omega
    simp only[e] at h3 h4;exact⟨h3,h4⟩
   have ly:∀p:InSL enc k w0 blk off L,Sem.run Tryz.prog (loadCellsFrom ⟨blk,off+pc*k,none⟩ 0 k #[]) p.W=.ok (enc y).toArray p.W:=fun p=>by
    have h1:=GLY.out (hh-1-(c-a)) HH.out.2.2.2.2.2.1;rw[hy] at h1;refine load_at HG.out HL.out.2 _ ?_ p;rw[HH.out.2.2.2.2.1];exact h1
   have HCQ:=Hd (fun p=>HCC.out.quiet HL.out.2 y x p)
   have HYY:=Hd (And.intro hx hy);clear hs' hc' hlt hx hy hpc;by_cases hlv:cf y x<0
   ·go_wp2_with fail
    refine zK mixed (by kernel_rfl) hs1 ?_
    repeat (quiet_step (first|(go_at_fn gf;exact HCQ.out _)))
    refine wpQuiet_nil ?_;rintro wq ⟨p,rfl⟩;have HLV:=Hd hlv;go_wp2
    refine⟨⟨i,c,rfl,rfl,?_,p.h⟩,?_⟩
    ·obtain⟨a1,a2,a3,a4,a5,a6,a7,a8,a9⟩:=HH.out
     obtain⟨b1,b2,b3,b4,b5⟩:=HI.out;refine⟨b1,by omega,by omega,b4,fun t ht ht2=>?_⟩
     have e:ltC cf Y[hh-1-(c-a)]! X[c-a]! = true:=by rw[HYY.out.1,HYY.out.2];exact zM HLV.out
     rcases Nat.lt_or_ge (c-a) t with hj|hj
     ·have hxl:=HB.out
      exact HO.out.lt_of (HO.out.lt_of' e (Srt.sorted_get HY.out (show hh-1-t<hh-1-(c-a) by omega) a6)) (Srt.sorted_get HX.out hj (by omega))
     ·rw[show t=c-a by omega];exact e
    ·have:=HH.out;simp only[intOf,Int.toNat_natCast];omega
   ·go_wp2_with fail
    refine zK mixed (by kernel_rfl) hs1 ?_
    repeat (quiet_step (first|(go_at_fn gf;exact HCQ.out _)))
    refine wpQuiet_nil ?_;rintro wq ⟨p,rfl⟩;have HLV:=Hd hlv;have hd:decide (cf y x<0)=false:=zL (by omega)
    go_wp2
    ·refine⟨⟨c+1,j,rfl,rfl,?_,p.h⟩,?_⟩
     ·obtain⟨a1,a2,a3,a4,a5,a6,a7,a8,a9⟩:=HH.out
      obtain⟨b1,b2,b3,b4,b5⟩:=HI.out;refine⟨by omega,by omega,b3,fun t ht ht2=>?_,b5⟩
      have e:ltC cf Y[hh-1-(c-a)]! X[c-a]! = false:=by rw[HYY.out.1,HYY.out.2];exact zL (Int.not_lt.2 HLV.out)
      rcases Nat.lt_or_ge t (c-a) with hj|hj
      ·have hyl:=HB.out
       exact HO.out.trans (HO.out.trans (Srt.sorted_get HY.out (show hh-1-(c-a)<hh-1-t by omega) (by omega)) e) (Srt.sorted_get HX.out hj a4)
      ·rw[show t=c-a by omega];exact e
     ·have:=HH.out;simp only[intOf,Int.toNat_natCast];omega
    ·rename_i hq;rw[hd] at hq;exact absurd hq (by decide)
  ·have hltz:¬((i:Int)<(j:Int)):=by omega
   obtain⟨s,hsi⟩:∃s,s=i:=⟨_,rfl⟩;rw[<-hsi] at hltz;obtain⟨u,hu⟩:∃u,u=s-a:=⟨_,rfl⟩;obtain⟨en,hen⟩:∃en,en=mid+m-s:=⟨_,rfl⟩;have hcut:=Srt.sym_cut HO.out HX.out HY.out (h:=hh) (u:=u) (lo:=st0-a) (hi:=r0-a) (by have:=HI.out;omega) (by have:=HI.out;omega) (by have:=HB.out;omega) (by have:=HB.out;omega) (by have:=HB.out;omega) (by have:=HB.out;omega) (by have:=HB.out;omega) (by rw[hu,hsi];exact HI.out.2.2.2.1) (by rw[hu,hsi];have h:=HI.out.2.2.2.2;have h2:=HI.out;rw[show j=i by omega] at h;exact h)
   obtain⟨X1,hX1⟩:=Zq (X.take u);obtain⟨X2,hX2⟩:=Zq (X.drop u);obtain⟨Y1,hY1⟩:=Zq (Y.take (hh-u));obtain⟨Y2,hY2⟩:=Zq (Y.drop (hh-u));rw[hX1,hX2,hY1,hY2] at hcut;have HE:Hid (X=X1++X2/\Y=Y1++Y2/\(∀a∈X1,∀d∈Y2,ltC cf d a=false)/\(∀b∈Y1,∀a∈X2,ltC cf b a=true)):=⟨by rw[<-hX1,<-hX2,List.take_append_drop],by rw[<-hY1,<-hY2,List.take_append_drop],hcut.1,hcut.2⟩
   have HN:Hid (a+X1.length=s/\s+X2.length=m/\m+Y1.length=en/\en+Y2.length=b/\s+Y1.length=mid/\mid+X2.length=en/\X1.length+X2.length=X.length/\Y1.length+Y2.length=Y.length):=by
    have:=HI.out;have:=HB.out;have:=HM.out;have:=HA.out
    rw[<-hX1,<-hX2,<-hY1,<-hY2,List.length_take,List.length_drop,List.length_take,List.length_drop];exact⟨by omega,by omega,by omega,by omega,by omega,by omega,by omega,by omega⟩
   have HT:Hid (Srt.Sorted (ltC cf) X1/\Srt.Sorted (ltC cf) X2/\Srt.Sorted (ltC cf) Y1/\Srt.Sorted (ltC cf) Y2):=by
    refine⟨?_,?_,?_,?_⟩
    ·rw[<-hX1];exact HX.out.sub (List.take_sublist _ _)
    ·rw[<-hX2];exact HX.out.sub (List.drop_sublist _ _)
    ·rw[<-hY1];exact HY.out.sub (List.take_sublist _ _)
    ·rw[<-hY2];exact HY.out.sub (List.drop_sublist _ _)
   have v3:IntKind.i64.wrap ((nn:Int)-s)=(en:Int):=by have:=HN.out;have:=HM.out;rw[IntWalk.i64_in _ (by omega)];omega
   have HS:=Hd hs1;clear hs hs1 hlt hu hen hcut hX1 hX2 hY1 hY2;subst hsi;by_cases c1:s<m
   ·have d1:(s:Int)<m:=by omega
    have d5:(mid:Int)<en:=by have:=HN.out;omega
    by_cases c2:m<en
    ·have d2:(m:Int)<en:=by omega
     have d4:(s:Int)<mid:=by have:=HN.out;omega
     by_cases c3:a<s
     ·have d3:(a:Int)<s:=by omega
      by_cases c4:en<b
      ·have d6:(en:Int)<b:=by omega
       go_wp2_with fail
       refine (HROT.out (P++X1) X2 Y1 (Y2++Q) s m en (by have:=HN.out;have h:=HL.out;rw[<-h.2,<-h.1,HE.out.1,HE.out.2.1];simp) (by have:=HN.out;have:=HA.out;simp only[Zb];omega) (by have:=HN.out;have:=HA.out;simp only[Zb];omega) (by have:=HN.out;omega) (by have:=HN.out;omega) (by have:=HN.out;omega) _ (by have h:=HS.out;rw[<-HL.out.1,HE.out.1,HE.out.2.1] at h;simpa using h)).mono ?_
       rintro e wa ⟨rfl,hs2⟩;replace hs2:Hid (SL enc k w0 blk off (P++(X1++(Y1++(X2++(Y2++Q))))) wa):=by show SL _ _ _ _ _ _ _;simpa using hs2
       go_wp2_with fail
       refine (HIH.out P X1 Y1 (X2++(Y2++Q)) a s mid _ (by have:=HN.out;have:=HA.out;have:=HM.out;omega) (by have h:=HL.out;rw[<-h.2,<-h.1,HE.out.1,HE.out.2.1];simp only[Zb];omega) HA.out.1 (by have:=HN.out;omega) (by have:=HN.out;omega) (by have:=HN.out;omega) (by have:=HN.out;omega) HT.out.1 HT.out.2.2.1 hs2.out).mono ?_
       rintro e wb ⟨rfl,Z1,hz1,hs3⟩;replace hs3:=Hd hs3;have HZ1:=Hd hz1;clear hz1;have HLZ:Hid (Z1.length=X1.length+Y1.length):=by have:=HZ1.out.len HO.out;rw[Zb] at this;exact this
       go_wp2_with fail
       refine (HIH.out (P++Z1) X2 Y2 Q mid en b _ (by have:=HN.out;have:=HA.out;have:=HM.out;omega) (by have h:=HL.out;have:=HLZ.out;rw[<-h.2,<-h.1,HE.out.1,HE.out.2.1];simp only[Zb];omega) (by have:=HN.out;have:=HLZ.out;have:=HA.out;simp only[Zb];omega) (by have:=HN.out;omega) (by have:=HN.out;omega) (by have:=HN.out;omega) (by have:=HN.out;omega) HT.out.2.1 HT.out.2.2.2 (by have h:=hs3.out;simpa using h)).mono ?_
       rintro e wc ⟨rfl,Z2,hz2,hs4⟩;replace hs4:=Hd hs4;have HZ2:=Hd hz2;clear hz2;go_wp2_with fail
       go_end0
       refine⟨rfl,Z1++Z2,?_,by have h:=hs4.out;simpa using h⟩
       have hx:=HX.out;have hy:=HY.out;rw[HE.out.1] at hx ⊢;rw[HE.out.2.1] at hy ⊢;exact Srt.St.split HO.out hx hy HE.out.2.2.1 HE.out.2.2.2 HZ1.out HZ2.out
      ·have d6:¬((en:Int)<b):=by omega
       go_wp2_with fail
       refine (HROT.out (P++X1) X2 Y1 (Y2++Q) s m en (by have:=HN.out;have h:=HL.out;rw[<-h.2,<-h.1,HE.out.1,HE.out.2.1];simp) (by have:=HN.out;have:=HA.out;simp only[Zb];omega) (by have:=HN.out;have:=HA.out;simp only[Zb];omega) (by have:=HN.out;omega) (by have:=HN.out;omega) (by have:=HN.out;omega) _ (by have h:=HS.out;rw[<-HL.out.1,HE.out.1,HE.out.2.1] at h;simpa using h)).mono ?_
       rintro e wa ⟨rfl,hs2⟩;replace hs2:Hid (SL enc k w0 blk off (P++(X1++(Y1++(X2++(Y2++Q))))) wa):=by show SL _ _ _ _ _ _ _;simpa using hs2
       go_wp2_with fail
       refine (HIH.out P X1 Y1 (X2++(Y2++Q)) a s mid _ (by have:=HN.out;have:=HA.out;have:=HM.out;omega) (by have h:=HL.out;rw[<-h.2,<-h.1,HE.out.1,HE.out.2.1];simp only[Zb];omega) HA.out.1 (by have:=HN.out;omega) (by have:=HN.out;omega) (by have:=HN.out;omega) (by have:=HN.out;omega) HT.out.1 HT.out.2.2.1 hs2.out).mono ?_
       rintro e wb ⟨rfl,Z1,hz1,hs3⟩;replace hs3:=Hd hs3;have HZ1:=Hd hz1;clear hz1;have HLZ:Hid (Z1.length=X1.length+Y1.length):=by have:=HZ1.out.len HO.out;rw[Zb] at this;exact this
       have HZ2:Hid (Srt.St (ltC cf) (X2++Y2) (X2++Y2)):=by
        have hz:X2=[]\/Y2=[]:=by rcases X2 with _|⟨_,_⟩<;>rcases Y2 with _|⟨_,_⟩<;>first|exact .inl rfl|exact .inr rfl|(exfalso;have:=HN.out;simp only[Ze] at this;omega)
        have h1:=HT.out;rcases hz with hz|hz<;>rw[hz] at h1 ⊢
        ·exact Srt.St.self (by simpa using h1.2.2.2)
        ·exact Srt.St.self (by simpa using h1.2.1)
       go_wp2_with fail
       go_end0
       refine⟨rfl,Z1++(X2++Y2),?_,by have h:=hs3.out;simpa using h⟩
       have hx:=HX.out;have hy:=HY.out;rw[HE.out.1] at hx ⊢;rw[HE.out.2.1] at hy ⊢;exact Srt.St.split HO.out hx hy HE.out.2.2.1 HE.out.2.2.2 HZ1.out HZ2.out
     ·have d3:¬((a:Int)<s):=by omega
      by_cases c4:en<b
      ·have d6:(en:Int)<b:=by omega
       go_wp2_with fail
       refine (HROT.out (P++X1) X2 Y1 (Y2++Q) s m en (by have:=HN.out;have h:=HL.out;rw[<-h.2,<-h.1,HE.out.1,HE.out.2.1];simp) (by have:=HN.out;have:=HA.out;simp only[Zb];omega) (by have:=HN.out;have:=HA.out;simp only[Zb];omega) (by have:=HN.out;omega) (by have:=HN.out;omega) (by have:=HN.out;omega) _ (by have h:=HS.out;rw[<-HL.out.1,HE.out.1,HE.out.2.1] at h;simpa using h)).mono ?_
       rintro e wa ⟨rfl,hs2⟩;replace hs2:Hid (SL enc k w0 blk off (P++(X1++(Y1++(X2++(Y2++Q))))) wa):=by show SL _ _ _ _ _ _ _;simpa using hs2
       obtain⟨Z1,HZ1,hs3⟩:∃Z1,Hid (Srt.St (ltC cf) Z1 (X1++Y1))/\Hid (SL enc k w0 blk off (P++(Z1++(X2++(Y2++Q)))) wa):=by
        refine⟨X1++Y1,?_,?_⟩
        ·have hz:X1=[]\/Y1=[]:=by rcases X1 with _|⟨_,_⟩<;>rcases Y1 with _|⟨_,_⟩<;>first|exact .inl rfl|exact .inr rfl|(exfalso;have:=HN.out;simp only[Ze] at this;omega)
         have h1:=HT.out;rcases hz with hz|hz<;>rw[hz] at h1 ⊢
         ·exact Srt.St.self (by simpa using h1.2.2.1)
         ·exact Srt.St.self (by simpa using h1.1)
        ·have h:=hs2.out;show SL _ _ _ _ _ _ _;simpa using h
       have HLZ:Hid (Z1.length=X1.length+Y1.length):=by have:=HZ1.out.len HO.out;rw[Zb] at this;exact this
       go_wp2_with fail
       refine (HIH.out (P++Z1) X2 Y2 Q mid en b _ (by have:=HN.out;have:=HA.out;have:=HM.out;omega) (by have h:=HL.out;have:=HLZ.out;rw[<-h.2,<-h.1,HE.out.1,HE.out.2.1];simp only[Zb];omega) (by have:=HN.out;have:=HLZ.out;have:=HA.out;simp only[Zb];omega) (by have:=HN.out;omega) (by have:=HN.out;omega) (by have:=HN.out;omega) (by have:=HN.out;omega) HT.out.2.1 HT.out.2.2.2 (by have h:=hs3.out;simpa using h)).mono ?_
       rintro e wc ⟨rfl,Z2,hz2,hs4⟩;replace hs4:=Hd hs4;have HZ2:=Hd hz2;clear hz2;go_wp2_with fail
       go_end0
       refine⟨rfl,Z1++Z2,?_,by have h:=hs4.out;simpa using h⟩
       have hx:=HX.out;have hy:=HY.out;rw[HE.out.1] at hx ⊢;rw[HE.out.2.1] at hy ⊢;exact Srt.St.split HO.out hx hy HE.out.2.2.1 HE.out.2.2.2 HZ1.out HZ2.out
      ·have d6:¬((en:Int)<b):=by omega
       go_wp2_with fail
       refine (HROT.out (P++X1) X2 Y1 (Y2++Q) s m en (by have:=HN.out;have h:=HL.out;rw[<-h.2,<-h.1,HE.out.1,HE.out.2.1];simp) (by have:=HN.out;have:=HA.out;simp only[Zb];omega) (by have:=HN.out;have:=HA.out;simp only[Zb];omega) (by have:=HN.out;omega) (by have:=HN.out;omega) (by have:=HN.out;omega) _ (by have h:=HS.out;rw[<-HL.out.1,HE.out.1,HE.out.2.1] at h;simpa using h)).mono ?_
       rintro e wa ⟨rfl,hs2⟩;replace hs2:Hid (SL enc k w0 blk off (P++(X1++(Y1++(X2++(Y2++Q))))) wa):=by show SL _ _ _ _ _ _ _;simpa using hs2
       obtain⟨Z1,HZ1,hs3⟩:∃Z1,Hid (Srt.St (ltC cf) Z1 (X1++Y1))/\Hid (SL enc k w0 blk off (P++(Z1++(X2++(Y2++Q)))) wa):=by
        refine⟨X1++Y1,?_,?_⟩
        ·have hz:X1=[]\/Y1=[]:=by rcases X1 with _|⟨_,_⟩<;>rcases Y1 with _|⟨_,_⟩<;>first|exact .inl rfl|exact .inr rfl|(exfalso;have:=HN.out;simp only[Ze] at this;omega)
         have h1:=HT.out;rcases hz with hz|hz<;>rw[hz] at h1 ⊢
         ·exact Srt.St.self (by simpa using h1.2.2.1)
         ·exact Srt.St.self (by simpa using h1.1)
        ·have h:=hs2.out;show SL _ _ _ _ _ _ _;simpa using h
       have HLZ:Hid (Z1.length=X1.length+Y1.length):=by have:=HZ1.out.len HO.out;rw[Zb] at this;exact this
       have HZ2:Hid (Srt.St (ltC cf) (X2++Y2) (X2++Y2)):=by
        have hz:X2=[]\/Y2=[]:=by rcases X2 with _|⟨_,_⟩<;>rcases Y2 with _|⟨_,_⟩<;>first|exact .inl rfl|exact .inr rfl|(exfalso;have:=HN.out;simp only[Ze] at this;omega)
        have h1:=HT.out;rcases hz with hz|hz<;>rw[hz] at h1 ⊢
        ·exact Srt.St.self (by simpa using h1.2.2.2)
        ·exact Srt.St.self (by simpa using h1.2.1)
       go_wp2_with fail
       go_end0
       refine⟨rfl,Z1++(X2++Y2),?_,by have h:=hs3.out;simpa using h⟩
       have hx:=HX.out;have hy:=HY.out;rw[HE.out.1] at hx ⊢;rw[HE.out.2.1] at hy ⊢;exact Srt.St.split HO.out hx hy HE.out.2.2.1 HE.out.2.2.2 HZ1.out HZ2.out
    ·have d2:¬((m:Int)<en):=by omega
     have d4:¬((s:Int)<mid):=by have:=HN.out;omega
     have d6:(en:Int)<b:=by have:=HN.out;have:=HA.out;omega
     have d3:(a:Int)<s:=by have:=HN.out;have:=HM.out;omega
     have hs2:Hid (SL enc k w0 blk off (P++(X1++(Y1++(X2++(Y2++Q))))) wr):=by
      have h:=HS.out;have hz:X2=[]\/Y1=[]:=by rcases X2 with _|⟨_,_⟩<;>rcases Y1 with _|⟨_,_⟩<;>first|exact .inl rfl|exact .inr rfl|(exfalso;have:=HN.out;simp only[Ze] at this;omega)
      rw[<-HL.out.1,HE.out.1,HE.out.2.1] at h;show SL _ _ _ _ _ _ _;rcases hz with hz|hz<;>rw[hz] at h ⊢<;>simpa using h
     obtain⟨Z1,HZ1,hs3⟩:∃Z1,Hid (Srt.St (ltC cf) Z1 (X1++Y1))/\Hid (SL enc k w0 blk off (P++(Z1++(X2++(Y2++Q)))) wr):=by
      refine⟨X1++Y1,?_,?_⟩
      ·have hz:X1=[]\/Y1=[]:=by rcases X1 with _|⟨_,_⟩<;>rcases Y1 with _|⟨_,_⟩<;>first|exact .inl rfl|exact .inr rfl|(exfalso;have:=HN.out;simp only[Ze] at this;omega)
       have h1:=HT.out;rcases hz with hz|hz<;>rw[hz] at h1 ⊢
       ·exact Srt.St.self (by simpa using h1.2.2.1)
       ·exact Srt.St.self (by simpa using h1.1)
      ·have h:=hs2.out;show SL _ _ _ _ _ _ _;simpa using h
     have HLZ:Hid (Z1.length=X1.length+Y1.length):=by have:=HZ1.out.len HO.out;rw[Zb] at this;exact this
     go_wp2_with fail
     refine (HIH.out (P++Z1) X2 Y2 Q mid en b _ (by have:=HN.out;have:=HA.out;have:=HM.out;omega) (by have h:=HL.out;have:=HLZ.out;rw[<-h.2,<-h.1,HE.out.1,HE.out.2.1];simp only[Zb];omega) (by have:=HN.out;have:=HLZ.out;have:=HA.out;simp only[Zb];omega) (by have:=HN.out;omega) (by have:=HN.out;omega) (by have:=HN.out;omega) (by have:=HN.out;omega) HT.out.2.1 HT.out.2.2.2 (by have h:=hs3.out;simpa using h)).mono ?_
     rintro e wc ⟨rfl,Z2,hz2,hs4⟩;replace hs4:=Hd hs4;have HZ2:=Hd hz2;clear hz2;go_wp2_with fail
     go_end0
     refine⟨rfl,Z1++Z2,?_,by have h:=hs4.out;simpa using h⟩
     have hx:=HX.out;have hy:=HY.out;rw[HE.out.1] at hx ⊢;rw[HE.out.2.1] at hy ⊢;exact Srt.St.split HO.out hx hy HE.out.2.2.1 HE.out.2.2.2 HZ1.out HZ2.out
   ·have d1:¬((s:Int)<m):=by omega
    exfalso;have:=HN.out;omega
end
end Go.Proofs.YtgmbefolgppmdaaGreat
