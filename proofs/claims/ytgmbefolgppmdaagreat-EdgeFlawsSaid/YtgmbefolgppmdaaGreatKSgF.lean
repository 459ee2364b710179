/- The document's Sets: the walk. -/
import Derived.Test.YtgmbefolgppmdaaGreatKSfC
import Derived.Test.YtgmbefolgppmdaaGreatKReg
import Derived.Test.YtgmbefolgppmdaaGreatKAli
namespace Go.Proofs.YtgmbefolgppmdaaGreat
open Go.RowKit Go.Shelf Go.Sort
set_option maxRecDepth 100000
theorem finQ6 {G:Prop} {A B C D E H:Type} (F:A->B->C->D->E->H->Prop) (Q:A->B->C->D->E->H->Prop) (h1:(∀a b c d e f,F a b c d e f->Q a b c d e f)->G) (h2:∀a b c d e f,F a b c d e f->Q a b c d e f):G:=h1 h2
set_option maxHeartbeats 8000000 in
theorem refSets_any {w w0:World} (v:Value) (l:List (El w)) (hb0:Below w.heap.size w w0) (hv:RecsRd v (l.map (·.1)) w0) (na:l.length<=1000) :
  Calls Tryz.prog 58 #[v] w0 (RSetsR l w0):=by
 have HC:=Hd (refCanon_any v l hb0 hv na);have HB0:=Hd hb0;clear hv hb0;refine (zF (n:=0)).1 ?_;refine callsIn_of_wp Tryz.func58 rfl trivial ?_ rfl;simp only[Tryz.ntmps58,Zo,Ze,Zg,Nat.reduceAdd,Nat.reduceSub,Zi,Zj,Zk,Zl,Zm,Zp];gi_wp2_with (gi_at_call 45;refine (callsIn_wide.2 HC.out).mono ?_;rintro e9 w1 ⟨c,v',hc1,hc2,rfl,hc4,hc5⟩)
 obtain⟨ov,cv,rfl⟩:∃o cap,v'=.slice o c.length cap:=by obtain⟨_,o,cap,h,_⟩:=hc4;exact⟨o,cap,by rw[h,Zf]⟩
 have HV:=Hd hc4.el;have HP:=Hd hc1;have HB1:=Hd hc5;have HCL:=Hd hc2;have HW1:Hid (Below w.heap.size w w1):=Z5 HB0.out hc5;have na:c.length<=1000:=by omega
 have lz:(c.length:Int)<=1000:=by omega
 clear hc1 hc2 hc4 hc5;gi_wp2_with fail
 gi_loopw [3,5] (fun vx vi W=>∃(i:Nat) (gs:List (List (El w))),i<=c.length/\vi=.int .i64 i/\Hid (gs=grp (c.take i))/\gs.length<=i/\Below w1.heap.size w1 W/\RSM w1 vx gs W) (fun _ vi _=>c.length-(intOf vi).toNat)
 case atStart=>exact⟨0,[],Nat.zero_le _,rfl,rfl,Zh _,Below.refl _ _,⟨[],rfl,Row.nil _ _ _ _,fun i h=>absurd h (by simp)⟩⟩
 case round =>
  obtain⟨i,gs,hi,rfl,HI,hgs,hb,hrsm⟩:=hrel;have HB:=Hd hb;have HR:=Hd hrsm;obtain⟨ox,cx,rfl,hcx1,hcx2⟩:=hrsm.form;clear hb hrsm;by_cases hlt:i<c.length
  case neg =>
   have hlz:¬((i:Int)<(c.length:Int)):=by omega
   obtain rfl:i=c.length:=by omega
   gi_wp2_with fail
   go_ret
   have h1:gs=grp (c.take c.length):=HI.out;rw[List.take_length] at h1;refine⟨c,_,HP.out,HCL.out,rfl,?_,Z5 HB1.out HB.out⟩;rw[<-h1];exact HR.out.rd
  case pos =>
  have hlz:(i:Int)<(c.length:Int):=by omega
  obtain⟨x,hx⟩:=Zq (c[i]);obtain⟨p0,n0,q0,p1,n1,q1,p2,n2,q2,p3,n3,q3,p4,n4,q4,ex⟩:=x.cells;have HCE:Hid (∀W',Below w1.heap.size w1 W'->∃a,ov=some a/\W'.cell? (a.add (i*7))=some (.slice p0 n0 q0)/\W'.cell? ⟨(a.add (i*7)).block,(a.add (i*7)).off+1,none⟩=some (.int .u32 (x.1.2.ttl:Int))/\W'.cell? ⟨(a.add (i*7)).block,(a.add (i*7)).off+2,none⟩=some (.int .i64 x.1.2.type)/\W'.cell? ⟨(a.add (i*7)).block,(a.add (i*7)).off+3,none⟩=some (.slice p1 n1 q1)/\W'.cell? ⟨(a.add (i*7)).block,(a.add (i*7)).off+4,none⟩=some (.slice p2 n2 q2)/\W'.cell? ⟨(a.add (i*7)).block,(a.add (i*7)).off+5,none⟩=some (.slice p3 n3 q3)/\W'.cell? ⟨(a.add (i*7)).block,(a.add (i*7)).off+6,none⟩=some (.slice p4 n4 q4)):=fun W' hW=>HV.out W' hW i hlt _ _ _ _ _ _ _ (by rw[hx];exact ex)
  obtain⟨ga,rfl,_⟩:=HCE.out _ HB.out;obtain⟨e,he⟩:=Zq (ga.add (i*7));have HXS:Hid (∀W',Below w1.heap.size w1 W'->Cs [(e,.slice p0 n0 q0),(⟨e.block,e.off+1,none⟩,.int .u32 (x.1.2.ttl:Int)),(⟨e.block,e.off+2,none⟩,.int .i64 x.1.2.type),(⟨e.block,e.off+3,none⟩,.slice p1 n1 q1),(⟨e.block,e.off+4,none⟩,.slice p2 n2 q2),(⟨e.block,e.off+5,none⟩,.slice p3 n3 q3),(⟨e.block,e.off+6,none⟩,.slice p4 n4 q4),(⟨e.block,e.off+2+1,none⟩,.slice p1 n1 q1),(⟨e.block,e.off+2+2,none⟩,.slice p2 n2 q2),(⟨e.block,e.off+2+3,none⟩,.slice p3 n3 q3),(⟨e.block,e.off+2+4,none⟩,.slice p4 n4 q4)] W'):=fun W' hW=>by
   obtain⟨a,ha,h0,h1,h2,h3,h4,h5,h6⟩:=HCE.out W' hW;cases ha;rw[he] at h0 h1 h2 h3 h4 h5 h6;exact⟨h0,h1,h2,h3,h4,h5,h6,h3,h4,h5,h6,trivial⟩
  have htk:c.take (i+1)=c.take i++[x]:=by rw[Zx hlt,hx]
  have hxr:RecRd [.slice p0 n0 q0,.int .u32 (x.1.2.ttl:Int),.int .i64 x.1.2.type,.slice p1 n1 q1,.slice p2 n2 q2,.slice p3 n3 q3,.slice p4 n4 q4] x.1.2 w:=by have h:=x.2.1;rw[show x.1.1=_ from ex] at h;exact h
  have HXO:Hid (Rd (.slice p0 n0 q0) x.1.2.owner w):=by
   obtain⟨vo,ds,h0,h1,h2⟩:=hxr;cases h0;exact h1
  have HED:Hid (encD x=[.int .i64 x.1.2.type,.slice p1 n1 q1,.slice p2 n2 q2,.slice p3 n3 q3,.slice p4 n4 q4]):=by show encD x=_;unfold encD;rw[ex];rfl
  have HTK:=Hd htk;have HXN:Hid (NB x.1.2.owner):=x.2.2.owner;clear hx ex htk hxr;generalize wr=wo at *
  by_cases hi0:i=0
  ·subst hi0
   have hg0:gs=[]:=by have h:gs=_:=HI.out;rw[h,List.take_zero];rfl
   subst hg0;have HNX:Hid (grp (c.take (0+1))=[]++[[x]]):=by show grp _=_;rw[HTK.out,List.take_zero];exact grp_one x
   obtain⟨css,hcss,hrow,hel⟩:=HR.out;obtain rfl:css=[]:=List.length_eq_zero_iff.1 hcss;have HROW:=Hd hrow;clear hrow hcss hel;gi_wp2_with fail
   refine Z8 (List.range 29) (fun _=>True) 29 rfl (by kernel_rfl) ?_
   intro wa hwa;have HBA:Hid (Below w1.heap.size w1 wa):=by subst hwa;exact HB.out.drew
   have HRA:=Hd (HROW.out.below (show Below wo.heap.size wo wa by subst hwa;exact (Below.refl wo.heap.size wo).drew))
   have hS:True:=trivial;clear hwa;refine tA 0 hS ?_;refine tA 1 hS ?_;refine tA 2 hS ?_;simp only[Act.put,Za,Zd,Zc];refine tU 3 hS ?_;refine tU 4 hS ?_;refine tU 5 hS ?_;refine tU 6 hS ?_;refine tU 7 hS ?_;refine tU 8 hS ?_;refine tU 9 hS ?_;refine tU 10 hS ?_;simp only[Act.put,Za,Zd,Zc];refine tU 11 hS ?_;refine tU 12 hS ?_;refine tU 13 hS ?_;simp only[Act.put,Za,Zd,Zc];refine tA 14 hS ?_;refine tA 15 hS ?_;simp only[Act.put,Za,Zd,Zc];refine tU 16 hS ?_;refine tU 17 hS ?_;refine tU 18 hS ?_;refine tU 19 hS ?_;refine tU 20 hS ?_;refine tU 21 hS ?_;refine tU 22 hS ?_;refine tU 23 hS ?_;simp only[Act.put,Za,Zd,Zc];refine tU 24 hS ?_;refine tU 25 hS ?_;refine tU 26 hS ?_;refine tU 27 hS ?_;simp only[Act.put,Za,Zd,Zc];refine tA 28 hS ?_;simp only[Act.put,Za,Zd,Zc];refine Z9 (by kernel_rfl) ?_
   clear hS;gi_wp2_with fail
   refine Z8 (List.range 26) (Cs [(e,.slice p0 n0 q0),(⟨e.block,e.off+1,none⟩,.int .u32 (x.1.2.ttl:Int)),(⟨e.block,e.off+2,none⟩,.int .i64 x.1.2.type),(⟨e.block,e.off+3,none⟩,.slice p1 n1 q1),(⟨e.block,e.off+4,none⟩,.slice p2 n2 q2),(⟨e.block,e.off+5,none⟩,.slice p3 n3 q3),(⟨e.block,e.off+6,none⟩,.slice p4 n4 q4),(⟨e.block,e.off+2+1,none⟩,.slice p1 n1 q1),(⟨e.block,e.off+2+2,none⟩,.slice p2 n2 q2),(⟨e.block,e.off+2+3,none⟩,.slice p3 n3 q3),(⟨e.block,e.off+2+4,none⟩,.slice p4 n4 q4)]) 27 rfl (by kernel_rfl) ?_
   intro wj hwj;have HBJ:Hid (Below w1.heap.size w1 wj):=by subst hwj;exact (HBA.out).drew
   have HBW:Hid (Below wa.heap.size wa wj):=by subst hwj;exact (Below.refl wa.heap.size wa).drew
   have hS:Cs [(e,.slice p0 n0 q0),(⟨e.block,e.off+1,none⟩,.int .u32 (x.1.2.ttl:Int)),(⟨e.block,e.off+2,none⟩,.int .i64 x.1.2.type),(⟨e.block,e.off+3,none⟩,.slice p1 n1 q1),(⟨e.block,e.off+4,none⟩,.slice p2 n2 q2),(⟨e.block,e.off+5,none⟩,.slice p3 n3 q3),(⟨e.block,e.off+6,none⟩,.slice p4 n4 q4),(⟨e.block,e.off+2+1,none⟩,.slice p1 n1 q1),(⟨e.block,e.off+2+2,none⟩,.slice p2 n2 q2),(⟨e.block,e.off+2+3,none⟩,.slice p3 n3 q3),(⟨e.block,e.off+2+4,none⟩,.slice p4 n4 q4)] wj:=HXS.out wj HBJ.out;clear hwj;refine tA 0 hS ?_;refine tA 1 hS ?_;refine tA 2 hS ?_;refine tA 3 hS ?_;refine tA 4 hS ?_;refine tA 5 hS ?_;refine tA 6 hS ?_;refine tA 7 hS ?_;simp only[Act.put,Za,Zd,Zc];refine tA 8 hS ?_;refine tA 9 hS ?_;refine tA 10 hS ?_;refine tA 11 hS ?_;refine tA 12 hS ?_;refine tA 13 hS ?_;refine tA 14 hS ?_;refine tA 15 hS ?_;simp only[Act.put,Za,Zd,Zc];refine tA 16 hS ?_;refine tA 17 hS ?_;refine tA 18 hS ?_;refine tA 19 hS ?_;refine tA 20 hS ?_;refine tA 21 hS ?_;simp only[Act.put,Za,Zd,Zc];refine oneH 22 (by rfl) (by kernel_rfl) (fun K hK=>?_)
   gi_wp2_with fail
   obtain⟨wk,hwk⟩:=Zq (wj.alloc (.cells #[.int .i64 x.1.2.type,.slice p1 n1 q1,.slice p2 n2 q2,.slice p3 n3 q3,.slice p4 n4 q4] 117));obtain⟨b107,hb107⟩:=Zq wj.heap.size;have hg107:GRd 5 (.slice (some ⟨b107,0,none⟩) 1 1) [encD x] wk:=by
    rw[<-hwk,<-hb107,HED.out];exact GRd.new [.int .i64 x.1.2.type,.slice p1 n1 q1,.slice p2 n2 q2,.slice p3 n3 q3,.slice p4 n4 q4] rfl (by simp[Value.oneCell']) wj 117
   have ha107:Below wj.heap.size wj wk:=by rw[<-hwk];exact Zr
   have hk107:∃c f,wk.heap[b107]? = some (.cells c 117 f):=by
    rw[<-hwk,<-hb107];exact⟨_,_,World.alloc_heap_new wj _⟩
   rw[hwk,hb107];have HG107:=Hd hg107;have HA107:=Hd ha107;have HK107:=Hd hk107;have HBK:=Hd (Z5 HBJ.out ha107);have HWK:=Hd (Z5 HBW.out ha107);refine hK _ _ (fun _=>HXS.out _ HBK.out) ?_
   clear hK K hwk hb107 hg107 ha107 hk107;refine oneH 23 (by rfl) (by kernel_rfl) (fun K hK=>?_)
   gi_wp2_with fail
   refine hK _ _ (fun _=>HXS.out _ HBK.out) ?_
   clear hK K;refine oneH 24 (by rfl) (by kernel_rfl) (fun K hK=>?_)
   gi_wp2_with fail
   obtain⟨wl,hwl⟩:∃W,wk.alloc (.cells #[.slice p0 n0 q0,.int .i64 x.1.2.type,.int .u32 (x.1.2.ttl:Int),.slice (some ⟨b107,0,none⟩) 1 1] 146)=W:=⟨_,rfl⟩;obtain⟨b109,hb109⟩:=Zq wk.heap.size;have hg109:GRd 4 (.slice (some ⟨b109,0,none⟩) 1 1) [[.slice p0 n0 q0,.int .i64 x.1.2.type,.int .u32 (x.1.2.ttl:Int),.slice (some ⟨b107,0,none⟩) 1 1]] wl:=by
    rw[<-hwl,<-hb109];exact GRd.new [.slice p0 n0 q0,.int .i64 x.1.2.type,.int .u32 (x.1.2.ttl:Int),.slice (some ⟨b107,0,none⟩) 1 1] rfl (by simp[Value.oneCell']) wk 146
   have ha109:Below wk.heap.size wk wl:=by rw[<-hwl];exact Zr
   rw[hwl,hb109];have HG109:=Hd hg109;have HA109:=Hd ha109;have HBL:=Hd (Z5 HBK.out ha109);have HWL:=Hd (Z5 HWK.out ha109);refine hK _ _ (fun _=>HXS.out _ HBL.out) ?_
   clear hK K hwl hb109 hg109 ha109;have HRL:=Hd ((HRA.out).below HWL.out);have HSZ:Hid (w1.heap.size<=wl.heap.size):=HBL.out.size;refine oneH 25 (by rfl) (by kernel_rfl) (fun K hK=>?_)
   gi_wp2_with (gi_at_builtin;go_loud (refine Z7 (fun g=>w1.heap.size<=g) 146 _ 4 64 info_rset rfl (by decide) rfl _ _ _ Tryz.underlying142 rfl _ (0) [] (by rfl) HRL.out _ [[.slice p0 n0 q0,.int .i64 x.1.2.type,.int .u32 (x.1.2.ttl:Int),.slice (some ⟨b107,0,none⟩) 1 1]] (by rfl) HG109.out (by simp<;>omega) (by omega) HSZ.out ?_);intro v110 wm hrow110 hgr110;have HR110:=Hd hrow110;have HG110:=Hd hgr110;clear hrow110 hgr110)
   refine hK _ _ (fun _=>HXS.out _ (HBL.out.grown HG110.out HBL.out.size (fun g hg=>HRL.out.2 g hg))) ?_
   clear hK K;refine oneH 26 (by rfl) (by kernel_rfl) (fun K hK=>?_)
   gi_wp2_with fail
   refine hK _ _ (fun h=>absurd h (by decide)) ?_
   clear hK K;refine Z9 (by kernel_rfl) ?_
   clear hS;gi_wp2_with fail
   refine⟨⟨0+1,([]:List (List (El w)))++[[x]],hlt,by go_num,?_,by first|(simp;done)|(have hm':gs'.length=m:=HGM.out;simp;omega),HBL.out.grown HG110.out HBL.out.size (fun g hg=>HRL.out.2 g hg),?_⟩,by simp[intOf]<;>omega⟩
   ·exact (HNX.out).symm
   ·have hty:TyKept 117 wl wm:=TyKept.grown HG110.out (fun g hg=>Row.typ HRL.out hg) (by decide)
    refine RSM.push (gs:=([]:List (List (El w)))) rfl HR110.out (fun i h=>absurd h (by simp)) ((TyKept.below HWL.out).trans hty) ⟨⟨x,[],_,_,_,_,_,rfl,by rw[show Rs.ttl x.1.2 (plE [x])=x.1.2.ttl from Nat.min_self _];rfl,HXO.out,?_⟩,fun po t tt od n cd e a ha=>?_⟩
    ·have hd:GRd 5 (.slice (some ⟨b107,0,none⟩) 1 1) [encD x] wm:=GRd.grown75 (HG107.out.below HA109.out) HG110.out (fun g' hg' e'=>by
      obtain⟨c1,f1,h1⟩:=Row.typ HRL.out hg';obtain⟨c2,f2,h2⟩:=HK107.out;have h3:=(TyKept.below HA109.out) _ _ _ h2;rw[e',h3] at h1;have h4:=Option.some.inj h1;injection h4 with _ h5 _
      exact absurd h5 (by decide))
     exact datsRd_of (l:=[x]) hd
    ·cases e;cases ha
     obtain⟨c,f,h⟩:=HK107.out;exact⟨_,_,hty _ _ _ ((TyKept.below HA109.out) _ _ _ h)⟩
  ·obtain⟨gs',h,t,e1,e2⟩:=grp_snoc x (c.take i).length (c.take i) (Zh _) (by rw[ne_eq,List.take_eq_nil_iff];intro h;rcases h with h|h<;>first|exact hi0 h|(rw[h] at hlt;simp at hlt))
   rw[<-HTK.out] at e2;obtain rfl:gs=gs'++[h::t]:=Eq.trans HI.out e1;obtain⟨css,g,cx',po,no,qo,od,cd,e3,hg,hcss,hc4,hrow,hel,hlast,hro,hdat⟩:=HR.out.last;have hlen:(gs'++[h::t]).length=gs'.length+1:=by simp
   simp only[Value.slice.injEq] at e3;obtain⟨rfl,-,rfl⟩:=e3;obtain⟨m,hm⟩:=Zq gs'.length;obtain⟨ht,hht⟩:∃n,Rs.ttl h.1.2 (plE (h::t))=n:=⟨_,rfl⟩;rw[hlen] at hgs hcx1;rw[hht] at hlast;rw[hht,hlen] at hrow;rw[hlen];rw[hm] at hrow hgs hcx1 hcss;rw[hm];have HROW:=Hd hrow;have HEL:=Hd hel;have HCS:=Hd hcss;have HC4:=Hd hc4;have HGM:Hid (gs'.length=m):=hm;have HHT:Hid (Rs.ttl h.1.2 (plE (h::t))=ht):=hht;have HLN:Hid ((gs'++[h::t]).length=m+1):=by show _=_;rw[hlen,hm]
   have HLA:Hid ((css++[[Value.slice po no qo,.int .i64 h.1.2.type,.int .u32 (ht:Int),.slice od (t.length+1) cd]]).length=(gs'++[h::t]).length):=by show _=_;simp[hcss,hm]
   have HEA0:Hid (∀j (h1:j<(css++[[Value.slice po no qo,.int .i64 h.1.2.type,.int .u32 (ht:Int),.slice od (t.length+1) cd]]).length) (h2:j<(gs'++[h::t]).length),RSetT (css++[[Value.slice po no qo,.int .i64 h.1.2.type,.int .u32 (ht:Int),.slice od (t.length+1) cd]])[j] (gs'++[h::t])[j] wo):=fun j h1 h2=>by
    by_cases hj:j<m
    ·rw[Zt (by omega),Zt (by omega)]
     exact hel j (by omega) (by omega)
    ·have hj':j=m:=by rw[hlen] at h2;omega
     rw[Zs (by omega),Zs (by omega)]
     simpa[hj',hm,hcss] using hlast
   have HTL:Hid (t.length<c.length):=by
    have h9:=congrArg (fun L=>(List.flatten L).length) e1
    simp only[grp_flat,List.flatten_append,Zb,List.flatten_cons,List.flatten_nil,Ze,List.length_take,List.append_nil] at h9;show _<_;omega
   have HRO:=Hd hro;have HDAT:=Hd hdat;have HG:=Hd hg;have HE2:=Hd e2;have hmz:(m:Int)<1000:=by omega
   have HOS:Hid (∀W',Below wo.heap.size wo W'->Cs [(⟨g,m*4,none⟩,Value.slice po no qo),(⟨g,m*4+1,none⟩,.int .i64 h.1.2.type),(⟨g,m*4+2,none⟩,.int .u32 (ht:Int)),(⟨g,m*4+3,none⟩,.slice od (t.length+1) cd),(e,.slice p0 n0 q0),(⟨e.block,e.off+1,none⟩,.int .u32 (x.1.2.ttl:Int)),(⟨e.block,e.off+2,none⟩,.int .i64 x.1.2.type),(⟨e.block,e.off+3,none⟩,.slice p1 n1 q1),(⟨e.block,e.off+4,none⟩,.slice p2 n2 q2),(⟨e.block,e.off+5,none⟩,.slice p3 n3 q3),(⟨e.block,e.off+6,none⟩,.slice p4 n4 q4),(⟨e.block,e.off+2+1,none⟩,.slice p1 n1 q1),(⟨e.block,e.off+2+2,none⟩,.slice p2 n2 q2),(⟨e.block,e.off+2+3,none⟩,.slice p3 n3 q3),(⟨e.block,e.off+2+4,none⟩,.slice p4 n4 q4)] W'):=fun W' hW=>by
    have hr:=HROW.out.below hW;have hb:∀j,j<4->W'.cell? ⟨g,m*4+j,none⟩=_:=fun j hj=>((Row.cellAt hr (m*4+j) (by omega)).1).trans (flat4_get css _ m j HCS.out HC4.out)
    exact⟨hb 0 (by omega),hb 1 (by omega),hb 2 (by omega),hb 3 (by omega),HXS.out W' (Z5 HB.out hW)⟩
   obtain⟨z,hz⟩:=Zq (Nm.same h.1.2.owner x.1.2.owner);have HZ:=Hd hz;have HSM:Hid (∀W',Below wo.heap.size wo W'->Calls Tryz.prog 24 #[.slice po no qo,.slice p0 n0 q0] W' (Gives (.bool z) W')):=fun W' hW=>by
    have:=zC _ _ h.1.2.owner x.1.2.owner W' (HRO.out.below (Z5 HW1.out (Z5 HB.out hW))) (HXO.out.below (Z5 HW1.out (Z5 HB.out hW))) h.2.2.owner HXN.out
    rw[hz] at this;exact this
   clear hrow hel hcss hc4 hht hro hdat hg e1 e2 hlen hz hlast hm HI HR HCE HV;gi_wp2_with fail
   refine Z8 (List.range 29) (Cs [(⟨g,m*4,none⟩,Value.slice po no qo),(⟨g,m*4+1,none⟩,.int .i64 h.1.2.type),(⟨g,m*4+2,none⟩,.int .u32 (ht:Int)),(⟨g,m*4+3,none⟩,.slice od (t.length+1) cd),(e,.slice p0 n0 q0),(⟨e.block,e.off+1,none⟩,.int .u32 (x.1.2.ttl:Int)),(⟨e.block,e.off+2,none⟩,.int .i64 x.1.2.type),(⟨e.block,e.off+3,none⟩,.slice p1 n1 q1),(⟨e.block,e.off+4,none⟩,.slice p2 n2 q2),(⟨e.block,e.off+5,none⟩,.slice p3 n3 q3),(⟨e.block,e.off+6,none⟩,.slice p4 n4 q4),(⟨e.block,e.off+2+1,none⟩,.slice p1 n1 q1),(⟨e.block,e.off+2+2,none⟩,.slice p2 n2 q2),(⟨e.block,e.off+2+3,none⟩,.slice p3 n3 q3),(⟨e.block,e.off+2+4,none⟩,.slice p4 n4 q4)]) 29 rfl (by kernel_rfl) ?_
   intro wa hwa;have HOA:Hid (Below wo.heap.size wo wa):=by subst hwa;exact (Below.refl wo.heap.size wo).drew
   have hS:=HOS.out wa HOA.out;clear hwa;refine tA 0 hS ?_;refine tA 1 hS ?_;refine tA 2 hS ?_;refine tA 3 hS ?_;refine tA 4 hS ?_;refine tC 5 hS ?_;refine tA 6 hS ?_;refine tA 7 hS ?_;simp only[Act.put,Za,Zd,Zc];refine tA 8 hS ?_;refine tA 9 hS ?_;refine tA 10 hS ?_;refine tA 11 hS ?_;refine tA 12 hS ?_;simp only[Act.put,Za,Zd,Zc];refine oneH 13 (by rfl) (by kernel_rfl) (fun K hK=>?_)
   gi_wp2_with (gi_at_call 24;refine (callsIn_wide.2 (HSM.out wa HOA.out)).mono ?_;rintro e9 wd ⟨rfl,b9⟩)
   have HOD:=Hd (Z5 HOA.out b9);have HBD:=Hd (Z5 HB.out HOD.out);have HRD:=Hd (HROW.out.below HOD.out);have HTD:Hid (TyKept 117 wo wd):=TyKept.below HOD.out;have HEA:=Hd (fun j h1 h2=>(HEA0.out j h1 h2).keep HTD.out)
   replace hS:=HOS.out wd HOD.out;refine hK _ _ (fun _=>hS) ?_
   clear hK K b9;cases z with
   | false =>
    have HNX:Hid (grp (c.take (i+1))=(gs'++[h::t])++[[x]]):=by
     show _=_;rw[HE2.out,if_neg];unfold Rs.P;rw[HZ.out,Bool.and_false];decide
    refine tA 14 hS ?_;refine tA 15 hS ?_;simp only[Act.put,Za,Zd,Zc];refine tU 16 hS ?_;refine tU 17 hS ?_;refine tU 18 hS ?_;refine tU 19 hS ?_;refine tU 20 hS ?_;refine tU 21 hS ?_;refine tU 22 hS ?_;refine tU 23 hS ?_;simp only[Act.put,Za,Zd,Zc];refine tU 24 hS ?_;refine tU 25 hS ?_;refine tU 26 hS ?_;refine tU 27 hS ?_;simp only[Act.put,Za,Zd,Zc];refine tA 28 hS ?_;simp only[Act.put,Za,Zd,Zc];refine Z9 (by kernel_rfl) ?_
    clear hS;gi_wp2_with fail
    refine Z8 (List.range 26) (Cs [(e,.slice p0 n0 q0),(⟨e.block,e.off+1,none⟩,.int .u32 (x.1.2.ttl:Int)),(⟨e.block,e.off+2,none⟩,.int .i64 x.1.2.type),(⟨e.block,e.off+3,none⟩,.slice p1 n1 q1),(⟨e.block,e.off+4,none⟩,.slice p2 n2 q2),(⟨e.block,e.off+5,none⟩,.slice p3 n3 q3),(⟨e.block,e.off+6,none⟩,.slice p4 n4 q4),(⟨e.block,e.off+2+1,none⟩,.slice p1 n1 q1),(⟨e.block,e.off+2+2,none⟩,.slice p2 n2 q2),(⟨e.block,e.off+2+3,none⟩,.slice p3 n3 q3),(⟨e.block,e.off+2+4,none⟩,.slice p4 n4 q4)]) 27 rfl (by kernel_rfl) ?_
    intro wj hwj;have HBJ:Hid (Below w1.heap.size w1 wj):=by subst hwj;exact (HBD.out).drew
    have HBW:Hid (Below wd.heap.size wd wj):=by subst hwj;exact (Below.refl wd.heap.size wd).drew
    have hS:Cs [(e,.slice p0 n0 q0),(⟨e.block,e.off+1,none⟩,.int .u32 (x.1.2.ttl:Int)),(⟨e.block,e.off+2,none⟩,.int .i64 x.1.2.type),(⟨e.block,e.off+3,none⟩,.slice p1 n1 q1),(⟨e.block,e.off+4,none⟩,.slice p2 n2 q2),(⟨e.block,e.off+5,none⟩,.slice p3 n3 q3),(⟨e.block,e.off+6,none⟩,.slice p4 n4 q4),(⟨e.block,e.off+2+1,none⟩,.slice p1 n1 q1),(⟨e.block,e.off+2+2,none⟩,.slice p2 n2 q2),(⟨e.block,e.off+2+3,none⟩,.slice p3 n3 q3),(⟨e.block,e.off+2+4,none⟩,.slice p4 n4 q4)] wj:=HXS.out wj HBJ.out;clear hwj;refine tA 0 hS ?_;refine tA 1 hS ?_;refine tA 2 hS ?_;refine tA 3 hS ?_;refine tA 4 hS ?_;refine tA 5 hS ?_;refine tA 6 hS ?_;refine tA 7 hS ?_;simp only[Act.put,Za,Zd,Zc];refine tA 8 hS ?_;refine tA 9 hS ?_;refine tA 10 hS ?_;refine tA 11 hS ?_;refine tA 12 hS ?_;refine tA 13 hS ?_;refine tA 14 hS ?_;refine tA 15 hS ?_;simp only[Act.put,Za,Zd,Zc];refine tA 16 hS ?_;refine tA 17 hS ?_;refine tA 18 hS ?_;refine tA 19 hS ?_;refine tA 20 hS ?_;refine tA 21 hS ?_;simp only[Act.put,Za,Zd,Zc];refine oneH 22 (by rfl) (by kernel_rfl) (fun K hK=>?_)
    gi_wp2_with fail
    obtain⟨wk,hwk⟩:=Zq (wj.alloc (.cells #[.int .i64 x.1.2.type,.slice p1 n1 q1,.slice p2 n2 q2,.slice p3 n3 q3,.slice p4 n4 q4] 117));obtain⟨b107,hb107⟩:=Zq wj.heap.size;have hg107:GRd 5 (.slice (some ⟨b107,0,none⟩) 1 1) [encD x] wk:=by
     rw[<-hwk,<-hb107,HED.out];exact GRd.new [.int .i64 x.1.2.type,.slice p1 n1 q1,.slice p2 n2 q2,.slice p3 n3 q3,.slice p4 n4 q4] rfl (by simp[Value.oneCell']) wj 117
    have ha107:Below wj.heap.size wj wk:=by rw[<-hwk];exact Zr
    have hk107:∃c f,wk.heap[b107]? = some (.cells c 117 f):=by
     rw[<-hwk,<-hb107];exact⟨_,_,World.alloc_heap_new wj _⟩
    rw[hwk,hb107];have HG107:=Hd hg107;have HA107:=Hd ha107;have HK107:=Hd hk107;have HBK:=Hd (Z5 HBJ.out ha107);have HWK:=Hd (Z5 HBW.out ha107);refine hK _ _ (fun _=>HXS.out _ HBK.out) ?_
    clear hK K hwk hb107 hg107 ha107 hk107;refine oneH 23 (by rfl) (by kernel_rfl) (fun K hK=>?_)
    gi_wp2_with fail
    refine hK _ _ (fun _=>HXS.out _ HBK.out) ?_
    clear hK K;refine oneH 24 (by rfl) (by kernel_rfl) (fun K hK=>?_)
    gi_wp2_with fail
    obtain⟨wl,hwl⟩:∃W,wk.alloc (.cells #[.slice p0 n0 q0,.int .i64 x.1.2.type,.int .u32 (x.1.2.ttl:Int),.slice (some ⟨b107,0,none⟩) 1 1] 146)=W:=⟨_,rfl⟩;obtain⟨b109,hb109⟩:=Zq wk.heap.size;have hg109:GRd 4 (.slice (some ⟨b109,0,none⟩) 1 1) [[.slice p0 n0 q0,.int .i64 x.1.2.type,.int .u32 (x.1.2.ttl:Int),.slice (some ⟨b107,0,none⟩) 1 1]] wl:=by
     rw[<-hwl,<-hb109];exact GRd.new [.slice p0 n0 q0,.int .i64 x.1.2.type,.int .u32 (x.1.2.ttl:Int),.slice (some ⟨b107,0,none⟩) 1 1] rfl (by simp[Value.oneCell']) wk 146
    have ha109:Below wk.heap.size wk wl:=by rw[<-hwl];exact Zr
    rw[hwl,hb109];have HG109:=Hd hg109;have HA109:=Hd ha109;have HBL:=Hd (Z5 HBK.out ha109);have HWL:=Hd (Z5 HWK.out ha109);refine hK _ _ (fun _=>HXS.out _ HBL.out) ?_
    clear hK K hwl hb109 hg109 ha109;have HRL:=Hd ((HRD.out).below HWL.out);have HSZ:Hid (w1.heap.size<=wl.heap.size):=HBL.out.size;refine oneH 25 (by rfl) (by kernel_rfl) (fun K hK=>?_)
    gi_wp2_with (gi_at_builtin;go_loud (refine Z7 (fun g=>w1.heap.size<=g) 146 _ 4 64 info_rset rfl (by decide) rfl _ _ _ Tryz.underlying142 rfl _ (m+1) (css++[[.slice po no qo,.int .i64 h.1.2.type,.int .u32 (ht:Int),.slice od (t.length+1) cd]]) (by rfl) HRL.out _ [[.slice p0 n0 q0,.int .i64 x.1.2.type,.int .u32 (x.1.2.ttl:Int),.slice (some ⟨b107,0,none⟩) 1 1]] (by rfl) HG109.out (by simp<;>omega) (by omega) HSZ.out ?_);intro v110 wm hrow110 hgr110;have HR110:=Hd hrow110;have HG110:=Hd hgr110;clear hrow110 hgr110)
    refine hK _ _ (fun _=>HXS.out _ (HBL.out.grown HG110.out HBL.out.size (fun g hg=>HRL.out.2 g hg))) ?_
    clear hK K;refine oneH 26 (by rfl) (by kernel_rfl) (fun K hK=>?_)
    gi_wp2_with fail
    refine hK _ _ (fun h=>absurd h (by decide)) ?_
    clear hK K;refine Z9 (by kernel_rfl) ?_
    clear hS;gi_wp2_with fail
    refine⟨⟨i+1,(gs'++[h::t])++[[x]],hlt,by go_num,?_,by first|(simp;done)|(have hm':gs'.length=m:=HGM.out;simp;omega),HBL.out.grown HG110.out HBL.out.size (fun g hg=>HRL.out.2 g hg),?_⟩,by simp[intOf]<;>omega⟩
    ·exact (HNX.out).symm
    ·have hty:TyKept 117 wl wm:=TyKept.grown HG110.out (fun g hg=>Row.typ HRL.out hg) (by decide)
     refine RSM.push (gs:=(gs'++[h::t])) HLA.out (by rw[HLN.out];exact HR110.out) HEA.out ((TyKept.below HWL.out).trans hty) ⟨⟨x,[],_,_,_,_,_,rfl,by rw[show Rs.ttl x.1.2 (plE [x])=x.1.2.ttl from Nat.min_self _];rfl,HXO.out,?_⟩,fun po t tt od n cd e a ha=>?_⟩
     ·have hd:GRd 5 (.slice (some ⟨b107,0,none⟩) 1 1) [encD x] wm:=GRd.grown75 (HG107.out.below HA109.out) HG110.out (fun g' hg' e'=>by
       obtain⟨c1,f1,h1⟩:=Row.typ HRL.out hg';obtain⟨c2,f2,h2⟩:=HK107.out;have h3:=(TyKept.below HA109.out) _ _ _ h2;rw[e',h3] at h1;have h4:=Option.some.inj h1;injection h4 with _ h5 _
       exact absurd h5 (by decide))
      exact datsRd_of (l:=[x]) hd
     ·cases e;cases ha
      obtain⟨c,f,h⟩:=HK107.out;exact⟨_,_,hty _ _ _ ((TyKept.below HA109.out) _ _ _ h)⟩
   | true =>
    by_cases hty:h.1.2.type=x.1.2.type
    ·have hbq:(h.1.2.type == x.1.2.type)=true:=by rw[hty];exact beq_self_eq_true _
     have HNX:Hid (grp (c.take (i+1))=gs'++[(h::t)++[x]]):=by
      show _=_;rw[HE2.out,if_pos];unfold Rs.P;rw[HZ.out,hbq];rfl
     refine tA 14 hS ?_;refine tA 15 hS ?_;refine tA 16 hS ?_;refine tA 17 hS ?_;refine tC 18 hS ?_;refine tA 19 hS ?_;refine tA 20 hS ?_;refine tA 21 hS ?_;simp only[Act.put,Za,Zd,Zc];refine tA 22 hS ?_;refine tA 23 hS ?_;refine tA 24 hS ?_;refine tA 25 hS ?_;refine tA 26 hS ?_;refine tA 27 hS ?_;refine tA 28 hS ?_;simp only[Act.put,Za,Zd,Zc];refine Z9 (by kernel_rfl) ?_
     clear hS;gi_wp2_with fail
     refine Z8 (List.range 16) (Cs [(⟨g,m*4,none⟩,Value.slice po no qo),(⟨g,m*4+1,none⟩,.int .i64 h.1.2.type),(⟨g,m*4+2,none⟩,.int .u32 (ht:Int)),(⟨g,m*4+3,none⟩,.slice od (t.length+1) cd),(e,.slice p0 n0 q0),(⟨e.block,e.off+1,none⟩,.int .u32 (x.1.2.ttl:Int)),(⟨e.block,e.off+2,none⟩,.int .i64 x.1.2.type),(⟨e.block,e.off+3,none⟩,.slice p1 n1 q1),(⟨e.block,e.off+4,none⟩,.slice p2 n2 q2),(⟨e.block,e.off+5,none⟩,.slice p3 n3 q3),(⟨e.block,e.off+6,none⟩,.slice p4 n4 q4),(⟨e.block,e.off+2+1,none⟩,.slice p1 n1 q1),(⟨e.block,e.off+2+2,none⟩,.slice p2 n2 q2),(⟨e.block,e.off+2+3,none⟩,.slice p3 n3 q3),(⟨e.block,e.off+2+4,none⟩,.slice p4 n4 q4)]) 19 rfl (by kernel_rfl) ?_
     intro wj hwj;have HDJ:Hid (Below wd.heap.size wd wj):=by subst hwj;exact (Below.refl wd.heap.size wd).drew
     have HOJ:Hid (Below wo.heap.size wo wj):=Z5 HOD.out HDJ.out;have HBJ:=Hd (Z5 HB.out HOJ.out);have hS:=HOS.out wj HOJ.out;clear hwj;refine tA 0 hS ?_;refine tA 1 hS ?_;refine tA 3 hS ?_;refine tA 4 hS ?_;refine tC 5 hS ?_;refine tA 6 hS ?_;refine tA 7 hS ?_;refine tA 9 hS ?_;simp only[Act.put,Za,Zd,Zc];refine tA 10 hS ?_;refine tA 11 hS ?_;refine tA 12 hS ?_;refine tA 13 hS ?_;simp only[Act.put,Za,Zd,Zc];have HTK:Hid (∀W',Below wj.heap.size wj W'->GRd 5 (.slice od (t.length+1) cd) ((h::t).map encD) W'):=fun W' hW=>HDAT.out.grd.below (Z5 HOJ.out hW)
     have htl:t.length<1000:=by have:=HTL.out;omega
     apply finQ6 (fun (_ _:Nat) (_:Value) (av:Option Addr) (cw:Nat) (W4:World)=>Row (fun g=>wj.heap.size<=g) 117 5 (.slice av (t.length+1+1) cw) (t.length+1+1) (((h::t)++[x]).map encD).flatten W4/\Below wj.heap.size wj W4)
     case h1 =>
      intro FIN;refine twoH2 2 14 (by rfl) (by rfl) (by kernel_rfl) (fun K hK=>?_) (fun K hK=>?_)
      ·gi_wp2_with fail
       obtain⟨wa,hwn0⟩:=Zq (wj.alloc (.cells #[] 117));have ha:Below wj.heap.size wj wa:=by rw[<-hwn0];exact ((Below.refl wj.heap.size wj)).alloc ((Below.refl wj.heap.size wj)).size _
       obtain⟨b66,hb66⟩:=Zq wj.heap.size;have he66:Row (fun g=>wj.heap.size<=g) 117 5 (.slice (some ⟨b66,0,none⟩) 0 0) 0 ([]:List (List Value)).flatten wa:=by
        rw[<-hwn0,<-hb66];exact⟨World.ownsRow_lit wj #[] 0 (Nat.zero_le _) (by unfold maxLen;omega) rfl,fun g hg=>by cases hg;exact ((Below.refl wj.heap.size wj)).size⟩
       have hn66:wj.heap.size=b66:=hb66;have HA66:Hid (Below wj.heap.size wj wa):=by show Below _ _ _;rw[<-hwn0];exact Zr
       rw[hwn0,hb66];have HE66:=Hd he66;have HN66:=Hd hn66;refine hK _ _ (fun _=>HOS.out _ (Z5 HOJ.out ha)) ?_
       clear hK K hwn0 hb66 he66 hn66;refine twoH2 8 14 (by rfl) (by rfl) (by kernel_rfl) (fun K hK=>?_) (fun K hK=>?_)
       ·have HSZ4:Hid (wj.heap.size<=wa.heap.size):=(ha).size
        have HRW4:=Hd (HE66.out);gi_wp2_with (gi_at_builtin;refine Z7 (fun g=>wj.heap.size<=g) 117 _ 5 104 info_rdat rfl (by decide) rfl _ _ _ Tryz.underlying144 rfl _ 0 [] (by rfl) HRW4.out _ ((h::t).map encD) (by rfl) (HTK.out _ (ha)) (by simp;omega) (by omega) HSZ4.out ?_;intro v70 wb hrow70 hgr70)
        have hb2:Below wj.heap.size wj wb:=(ha).grown hgr70 (ha).size (fun g hg=>HRW4.out.2 g hg)
        rw[Zm,Zf,Ze,Nat.zero_add] at hrow70;have HR70:=Hd hrow70;have HGR70:=Hd hgr70;refine hK _ _ (fun _=>HOS.out _ (Z5 HOJ.out hb2)) ?_
        clear hK K hrow70 hgr70 HSZ4;refine oneH 14 (by rfl) (by kernel_rfl) (fun K hK=>?_)
        gi_wp2_with fail
        obtain⟨wc,hwn9⟩:=Zq (wb.alloc (.cells #[.int .i64 x.1.2.type,.slice p1 n1 q1,.slice p2 n2 q2,.slice p3 n3 q3,.slice p4 n4 q4] 117));have hc:Below wj.heap.size wj wc:=by rw[<-hwn9];exact (hb2).alloc (hb2).size _
        obtain⟨b75,hb75⟩:=Zq wb.heap.size;have hg75:GRd 5 (.slice (some ⟨b75,0,none⟩) 1 1) [encD x] wc:=by
         rw[<-hwn9,<-hb75,HED.out];exact GRd.new [.int .i64 x.1.2.type,.slice p1 n1 q1,.slice p2 n2 q2,.slice p3 n3 q3,.slice p4 n4 q4] rfl (by simp[Value.oneCell']) wb 117
        have ha75:Below wb.heap.size wb wc:=by rw[<-hwn9];exact Zr
        have hk75:b75+1=wc.heap.size:=by rw[<-hwn9,<-hb75];simp
        rw[hwn9,hb75];have HG75:=Hd hg75;have HA75:=Hd ha75;have HK75:=Hd hk75;refine hK _ _ (fun _=>HOS.out _ (Z5 HOJ.out hc)) ?_
        clear hK K hwn9 hg75 ha75 hk75 hb75;have HSZ9:Hid (wj.heap.size<=wc.heap.size):=(hc).size;have HRW9:=Hd (HR70.out.below HA75.out);have HGW9:=Hd (HG75.out)
        try clear hne75
        try clear hb75'
        refine oneH 15 (by rfl) (by kernel_rfl) (fun K hK=>?_)
        gi_wp2_with (gi_at_builtin;refine Z7 (fun g=>wj.heap.size<=g) 117 _ 5 104 info_rdat rfl (by decide) rfl _ _ _ Tryz.underlying144 rfl _ (t.length+1) ((h::t).map encD) (by rfl) HRW9.out _ [encD x] (by rfl) HGW9.out (by simp;omega) (by omega) HSZ9.out ?_;intro v76 wd2 hrow76 hgr76)
        obtain⟨av,cw,rfl⟩:=hrow76.form;have hd2:Below wj.heap.size wj wd2:=(hc).grown hgr76 (hc).size (fun g hg=>HRW9.out.2 g hg)
        have HR76:=Hd hrow76;replace hS:=HOS.out _ (Z5 HOJ.out hd2);have hof:=(Row.cellAt (HROW.out.below (Z5 HOJ.out hd2)) (m*4+3) (by omega)).2
        have ho3:wd2.cell? ⟨g,m*4+3,none⟩=some (.slice od (t.length+1) cd):=hS.2.2.2.1;refine hK _ _ (fun _=>hS) ?_
        clear hK K hrow76 hgr76 HSZ9;refine tD 16 ?_;refine tB 17 ?_;simp only[Act.put,Za,Zd,Zc];refine oneH 18 (by rfl) (by kernel_rfl) (fun K hK=>?_)
        gi_wp2_with fail
        refine hK _ _ (fun h=>absurd h (by decide)) ?_
        clear hK K;refine Z9 (by kernel_rfl) ?_
        have hfr:=HR76.out;rw[<-List.map_singleton (f:=encD),<-List.map_append] at hfr;apply FIN b66 b75 v70 av cw wd2
        exact⟨hfr,hd2⟩
       ·gi_wp2_with fail
        obtain⟨wb,hwn9⟩:=Zq (wa.alloc (.cells #[.int .i64 x.1.2.type,.slice p1 n1 q1,.slice p2 n2 q2,.slice p3 n3 q3,.slice p4 n4 q4] 117));have hb2:Below wj.heap.size wj wb:=by rw[<-hwn9];exact (ha).alloc (ha).size _
        obtain⟨b75,hb75⟩:=Zq wa.heap.size;have hg75:GRd 5 (.slice (some ⟨b75,0,none⟩) 1 1) [encD x] wb:=by
         rw[<-hwn9,<-hb75,HED.out];exact GRd.new [.int .i64 x.1.2.type,.slice p1 n1 q1,.slice p2 n2 q2,.slice p3 n3 q3,.slice p4 n4 q4] rfl (by simp[Value.oneCell']) wa 117
        have ha75:Below wa.heap.size wa wb:=by rw[<-hwn9];exact Zr
        have hk75:b75+1=wb.heap.size:=by rw[<-hwn9,<-hb75];simp
        rw[hwn9,hb75];have HG75:=Hd hg75;have HA75:=Hd ha75;have HK75:=Hd hk75;refine hK _ _ (fun _=>HOS.out _ (Z5 HOJ.out hb2)) ?_
        have hb75':wa.heap.size=b75:=hb75;clear hK K hwn9 hg75 ha75 hk75 hb75;have HE67:=Hd (HE66.out.below HA75.out);have hne75:b66≠b75:=by
         have h1:=HK75.out;have h3:=(HE66.out.1.lt b66 rfl).2;have h4:=HA75.out.size;omega
        refine oneH 8 (by rfl) (by kernel_rfl) (fun K hK=>?_)
        have HSZ4:Hid (wj.heap.size<=wb.heap.size):=(hb2).size;have HRW4:=Hd (HE67.out);gi_wp2_with (gi_at_builtin;refine Z7 (fun g=>wj.heap.size<=g) 117 _ 5 104 info_rdat rfl (by decide) rfl _ _ _ Tryz.underlying144 rfl _ 0 [] (by rfl) HRW4.out _ ((h::t).map encD) (by rfl) (HTK.out _ (hb2)) (by simp;omega) (by omega) HSZ4.out ?_;intro v70 wc hrow70 hgr70)
        have hc:Below wj.heap.size wj wc:=(hb2).grown hgr70 (hb2).size (fun g hg=>HRW4.out.2 g hg)
        rw[Zm,Zf,Ze,Nat.zero_add] at hrow70;have HR70:=Hd hrow70;have HGR70:=Hd hgr70;refine hK _ _ (fun _=>HOS.out _ (Z5 HOJ.out hc)) ?_
        clear hK K hrow70 hgr70 HSZ4;have HSZ9:Hid (wj.heap.size<=wc.heap.size):=(hc).size;have HRW9:=Hd (HR70.out);have HGW9:=Hd (GRd.grown75 HG75.out HGR70.out (by rintro g hg;simp only[Value.ownBlock,Option.some.injEq] at hg;omega))
        try clear hne75
        try clear hb75'
        refine oneH 15 (by rfl) (by kernel_rfl) (fun K hK=>?_)
        gi_wp2_with (gi_at_builtin;refine Z7 (fun g=>wj.heap.size<=g) 117 _ 5 104 info_rdat rfl (by decide) rfl _ _ _ Tryz.underlying144 rfl _ (t.length+1) ((h::t).map encD) (by rfl) HRW9.out _ [encD x] (by rfl) HGW9.out (by simp;omega) (by omega) HSZ9.out ?_;intro v76 wd2 hrow76 hgr76)
        obtain⟨av,cw,rfl⟩:=hrow76.form;have hd2:Below wj.heap.size wj wd2:=(hc).grown hgr76 (hc).size (fun g hg=>HRW9.out.2 g hg)
        have HR76:=Hd hrow76;replace hS:=HOS.out _ (Z5 HOJ.out hd2);have hof:=(Row.cellAt (HROW.out.below (Z5 HOJ.out hd2)) (m*4+3) (by omega)).2
        have ho3:wd2.cell? ⟨g,m*4+3,none⟩=some (.slice od (t.length+1) cd):=hS.2.2.2.1;refine hK _ _ (fun _=>hS) ?_
        clear hK K hrow76 hgr76 HSZ9;refine tD 16 ?_;refine tB 17 ?_;simp only[Act.put,Za,Zd,Zc];refine oneH 18 (by rfl) (by kernel_rfl) (fun K hK=>?_)
        gi_wp2_with fail
        refine hK _ _ (fun h=>absurd h (by decide)) ?_
        clear hK K;refine Z9 (by kernel_rfl) ?_
        have hfr:=HR76.out;rw[<-List.map_singleton (f:=encD),<-List.map_append] at hfr;apply FIN b66 b75 v70 av cw wd2
        exact⟨hfr,hd2⟩
      ·gi_wp2_with fail
       obtain⟨wa,hwn9⟩:=Zq (wj.alloc (.cells #[.int .i64 x.1.2.type,.slice p1 n1 q1,.slice p2 n2 q2,.slice p3 n3 q3,.slice p4 n4 q4] 117));have ha:Below wj.heap.size wj wa:=by rw[<-hwn9];exact ((Below.refl wj.heap.size wj)).alloc ((Below.refl wj.heap.size wj)).size _
       obtain⟨b75,hb75⟩:=Zq wj.heap.size;have hg75:GRd 5 (.slice (some ⟨b75,0,none⟩) 1 1) [encD x] wa:=by
        rw[<-hwn9,<-hb75,HED.out];exact GRd.new [.int .i64 x.1.2.type,.slice p1 n1 q1,.slice p2 n2 q2,.slice p3 n3 q3,.slice p4 n4 q4] rfl (by simp[Value.oneCell']) wj 117
       have ha75:Below wj.heap.size wj wa:=by rw[<-hwn9];exact Zr
       have hk75:b75+1=wa.heap.size:=by rw[<-hwn9,<-hb75];simp
       rw[hwn9,hb75];have HG75:=Hd hg75;have HA75:=Hd ha75;have HK75:=Hd hk75;refine hK _ _ (fun _=>HOS.out _ (Z5 HOJ.out ha)) ?_
       clear hK K hwn9 hg75 ha75 hk75 hb75;refine oneH 2 (by rfl) (by kernel_rfl) (fun K hK=>?_)
       gi_wp2_with fail
       obtain⟨wb,hwn0⟩:=Zq (wa.alloc (.cells #[] 117));have hb2:Below wj.heap.size wj wb:=by rw[<-hwn0];exact (ha).alloc (ha).size _
       obtain⟨b66,hb66⟩:=Zq wa.heap.size;have he66:Row (fun g=>wj.heap.size<=g) 117 5 (.slice (some ⟨b66,0,none⟩) 0 0) 0 ([]:List (List Value)).flatten wb:=by
        rw[<-hwn0,<-hb66];exact⟨World.ownsRow_lit wa #[] 0 (Nat.zero_le _) (by unfold maxLen;omega) rfl,fun g hg=>by cases hg;exact (ha).size⟩
       have hn66:wa.heap.size=b66:=hb66;have HA66:Hid (Below wa.heap.size wa wb):=by show Below _ _ _;rw[<-hwn0];exact Zr
       rw[hwn0,hb66];have HE66:=Hd he66;have HN66:=Hd hn66;refine hK _ _ (fun _=>HOS.out _ (Z5 HOJ.out hb2)) ?_
       clear hK K hwn0 hb66 he66 hn66;have hne75:b66≠b75:=by
        have h1:=HK75.out;have h3:=HN66.out;omega
       refine oneH 8 (by rfl) (by kernel_rfl) (fun K hK=>?_)
       have HSZ4:Hid (wj.heap.size<=wb.heap.size):=(hb2).size;have HRW4:=Hd (HE66.out);gi_wp2_with (gi_at_builtin;refine Z7 (fun g=>wj.heap.size<=g) 117 _ 5 104 info_rdat rfl (by decide) rfl _ _ _ Tryz.underlying144 rfl _ 0 [] (by rfl) HRW4.out _ ((h::t).map encD) (by rfl) (HTK.out _ (hb2)) (by simp;omega) (by omega) HSZ4.out ?_;intro v70 wc hrow70 hgr70)
       have hc:Below wj.heap.size wj wc:=(hb2).grown hgr70 (hb2).size (fun g hg=>HRW4.out.2 g hg)
       rw[Zm,Zf,Ze,Nat.zero_add] at hrow70;have HR70:=Hd hrow70;have HGR70:=Hd hgr70;refine hK _ _ (fun _=>HOS.out _ (Z5 HOJ.out hc)) ?_
       clear hK K hrow70 hgr70 HSZ4;have HSZ9:Hid (wj.heap.size<=wc.heap.size):=(hc).size;have HRW9:=Hd (HR70.out);have HGW9:=Hd (GRd.grown75 (HG75.out.below HA66.out) HGR70.out (by rintro g hg;simp only[Value.ownBlock,Option.some.injEq] at hg;omega))
       try clear hne75
       try clear hb75'
       refine oneH 15 (by rfl) (by kernel_rfl) (fun K hK=>?_)
       gi_wp2_with (gi_at_builtin;refine Z7 (fun g=>wj.heap.size<=g) 117 _ 5 104 info_rdat rfl (by decide) rfl _ _ _ Tryz.underlying144 rfl _ (t.length+1) ((h::t).map encD) (by rfl) HRW9.out _ [encD x] (by rfl) HGW9.out (by simp;omega) (by omega) HSZ9.out ?_;intro v76 wd2 hrow76 hgr76)
       obtain⟨av,cw,rfl⟩:=hrow76.form;have hd2:Below wj.heap.size wj wd2:=(hc).grown hgr76 (hc).size (fun g hg=>HRW9.out.2 g hg)
       have HR76:=Hd hrow76;replace hS:=HOS.out _ (Z5 HOJ.out hd2);have hof:=(Row.cellAt (HROW.out.below (Z5 HOJ.out hd2)) (m*4+3) (by omega)).2
       have ho3:wd2.cell? ⟨g,m*4+3,none⟩=some (.slice od (t.length+1) cd):=hS.2.2.2.1;refine hK _ _ (fun _=>hS) ?_
       clear hK K hrow76 hgr76 HSZ9;refine tD 16 ?_;refine tB 17 ?_;simp only[Act.put,Za,Zd,Zc];refine oneH 18 (by rfl) (by kernel_rfl) (fun K hK=>?_)
       gi_wp2_with fail
       refine hK _ _ (fun h=>absurd h (by decide)) ?_
       clear hK K;refine Z9 (by kernel_rfl) ?_
       have hfr:=HR76.out;rw[<-List.map_singleton (f:=encD),<-List.map_append] at hfr;apply FIN b66 b75 v70 av cw wd2
       exact⟨hfr,hd2⟩
     case h2 =>
      rintro b66 b75 v70 av cw W4 ⟨hr76,hb4⟩;have HB4:=Hd (Z5 HBJ.out hb4);have HO4:=Hd (Z5 HOJ.out hb4);have HT4:Hid (TyKept 117 wo W4):=TyKept.below HO4.out;have hgrd:GRd 5 (.slice av (t.length+1+1) cw) (((h::t)++[x]).map encD) W4:=Row.grd (by simpa using hr76) (fun c hc=>by
       obtain⟨y,_,rfl⟩:=List.mem_map.1 hc;exact⟨encD_len y,encD_one' y⟩)
      have HRT:Hid (RSetT [Value.slice po no qo,.int .i64 h.1.2.type,.int .u32 ((min ht x.1.2.ttl:Nat):Int),.slice av (t.length+1+1) cw] ((h::t)++[x]) W4):=by
       refine⟨⟨h,t++[x],po,no,qo,av,cw,rfl,?_,HRO.out,?_⟩,fun p0 t0 t1 od n cd e a ha=>?_⟩
       ·rw[show plE ((h::t)++[x])=plE (h::t)++[x.1.2] from plE_snoc _ _,ttl_snoc,HHT.out]
        simp
       ·have:=datsRd_of (l:=(h::t)++[x]) hgrd
        simpa using this
       ·cases e
        obtain⟨cc,ff,hh⟩:=Row.typ hr76 (g:=a.block) (by rw[ha];rfl)
        exact⟨_,_,hh⟩
      have hr4:=HROW.out.below HO4.out;have HT5:Hid (TyKept 117 W4 (W4.setCell ⟨g,m*4+3,none⟩ (.slice av (t.length+1+1) cw))):=TyKept.set _ (Row.typ hr4 rfl) (by decide)
      have hr5:=Row.set1 hr4 (m*4+3) (.slice av (t.length+1+1) cw);rw[flat4_set css _ m 3 _ HCS.out HC4.out] at hr5;have HB5:Hid (Below w1.heap.size w1 (W4.setCell ⟨g,m*4+3,none⟩ (.slice av (t.length+1+1) cw))):=HB4.out.setCell (p:=⟨g,m*4+3,none⟩) HG.out _;obtain⟨W5,hW5⟩:=Zq (W4.setCell ⟨g,m*4+3,none⟩ (.slice av (t.length+1+1) cw));rw[hW5] at HT5 hr5 HB5;rw[hW5];have HR5:Hid (Row (fun g=>w1.heap.size<=g) 146 4 (.slice (some ⟨g,0,none⟩) (m+1) cx) (m+1) (css++[[Value.slice po no qo,.int .i64 h.1.2.type,.int .u32 (ht:Int),.slice av (t.length+1+1) cw]]).flatten W5):=hr5
      have HOS5:Hid (∀W',Below W5.heap.size W5 W'->Cs [(⟨g,m*4,none⟩,Value.slice po no qo),(⟨g,m*4+1,none⟩,.int .i64 h.1.2.type),(⟨g,m*4+2,none⟩,.int .u32 (ht:Int)),(⟨g,m*4+3,none⟩,.slice av (t.length+1+1) cw),(e,.slice p0 n0 q0),(⟨e.block,e.off+1,none⟩,.int .u32 (x.1.2.ttl:Int)),(⟨e.block,e.off+2,none⟩,.int .i64 x.1.2.type),(⟨e.block,e.off+3,none⟩,.slice p1 n1 q1),(⟨e.block,e.off+4,none⟩,.slice p2 n2 q2),(⟨e.block,e.off+5,none⟩,.slice p3 n3 q3),(⟨e.block,e.off+6,none⟩,.slice p4 n4 q4),(⟨e.block,e.off+2+1,none⟩,.slice p1 n1 q1),(⟨e.block,e.off+2+2,none⟩,.slice p2 n2 q2),(⟨e.block,e.off+2+3,none⟩,.slice p3 n3 q3),(⟨e.block,e.off+2+4,none⟩,.slice p4 n4 q4)] W'):=fun W' hW=>by
       have hr:=HR5.out.below hW;have hb:∀j,j<4->W'.cell? ⟨g,m*4+j,none⟩=_:=fun j hj=>((Row.cellAt hr (m*4+j) (by omega)).1).trans (flat4_get css _ m j HCS.out HC4.out)
       exact⟨hb 0 (by omega),hb 1 (by omega),hb 2 (by omega),hb 3 (by omega),HXS.out W' (Z5 HB5.out hW)⟩
      have HEL5:=Hd (fun j h1 h2=>(HEL.out j h1 h2).keep (HT4.out.trans HT5.out))
      have HRT5:=Hd (HRT.out.keep HT5.out);clear hr76 hb4 hgrd hr4 hr5 hW5;gi_wp2_with fail
      refine Z8 (List.range 11) (Cs [(⟨g,m*4,none⟩,Value.slice po no qo),(⟨g,m*4+1,none⟩,.int .i64 h.1.2.type),(⟨g,m*4+2,none⟩,.int .u32 (ht:Int)),(⟨g,m*4+3,none⟩,.slice av (t.length+1+1) cw),(e,.slice p0 n0 q0),(⟨e.block,e.off+1,none⟩,.int .u32 (x.1.2.ttl:Int)),(⟨e.block,e.off+2,none⟩,.int .i64 x.1.2.type),(⟨e.block,e.off+3,none⟩,.slice p1 n1 q1),(⟨e.block,e.off+4,none⟩,.slice p2 n2 q2),(⟨e.block,e.off+5,none⟩,.slice p3 n3 q3),(⟨e.block,e.off+6,none⟩,.slice p4 n4 q4),(⟨e.block,e.off+2+1,none⟩,.slice p1 n1 q1),(⟨e.block,e.off+2+2,none⟩,.slice p2 n2 q2),(⟨e.block,e.off+2+3,none⟩,.slice p3 n3 q3),(⟨e.block,e.off+2+4,none⟩,.slice p4 n4 q4)]) 11 rfl (by kernel_rfl) ?_
      intro we hwe;have HWE:Hid (Below W5.heap.size W5 we):=by subst hwe;exact (Below.refl W5.heap.size W5).drew
      have hS:=HOS5.out we HWE.out;have HRE:=Hd (HR5.out.below HWE.out);have HBE:=Hd (Z5 HB5.out HWE.out);have HTE:Hid (TyKept 117 W5 we):=TyKept.below HWE.out;have HHL:Hid ((gs'++[(h::t)++[x]]).length=m+1):=by show _=_;simp[HGM.out]
      clear hwe;by_cases htt:x.1.2.ttl<ht
      ·have htz:(x.1.2.ttl:Int)<(ht:Int):=by omega
       have htd:decide (x.1.2.ttl<ht)=true:=zM htt;refine tA 0 hS ?_;refine tA 1 hS ?_;refine tA 2 hS ?_;refine tA 3 hS ?_;refine tA 4 hS ?_;refine tA 5 hS ?_;refine tA 6 hS ?_;refine tC 7 hS ?_;simp only[Act.put,Za,Zd,Zc];refine tA 8 hS ?_;refine tA 9 hS ?_;refine tA 10 hS ?_;simp only[Act.put,Za,Zd,Zc];refine Z9 (by kernel_rfl) ?_
       have o2:we.cell? ⟨g,m*4+2,none⟩=some (.int .u32 (ht:Int)):=hS.2.2.1;have x1:we.cell? ⟨e.block,e.off+1,none⟩=some (.int .u32 (x.1.2.ttl:Int)):=hS.2.2.2.2.2.1;have yf:=(Row.cellAt HRE.out (m*4+2) (by omega)).2
       clear hS;gi_wp2_with fail
       have hr6:=Row.set1 HRE.out (m*4+2) (.int .u32 (x.1.2.ttl:Int));rw[flat4_set css _ m 2 _ HCS.out HC4.out] at hr6;have ht6:TyKept 117 we (we.setCell ⟨g,m*4+2,none⟩ (.int .u32 (x.1.2.ttl:Int))):=TyKept.set _ (Row.typ HRE.out rfl) (by decide)
       refine⟨⟨i+1,gs'++[(h::t)++[x]],hlt,by go_num,HNX.out.symm,by rw[HHL.out];omega,HBE.out.setCell (p:=⟨g,m*4+2,none⟩) HG.out _,RSM.push (gs:=gs') (HCS.out.trans HGM.out.symm) (by rw[HGM.out];exact hr6) (HEL5.out) (HTE.out.trans ht6) ?_⟩,by simp[intOf]<;>omega⟩
       have h7:=HRT5.out.keep (HTE.out.trans ht6);rw[show min ht x.1.2.ttl=x.1.2.ttl by omega] at h7
       exact h7
      ·have htz:¬(x.1.2.ttl:Int)<(ht:Int):=by omega
       have htd:decide (x.1.2.ttl<ht)=false:=zL htt;refine tA 0 hS ?_;refine tA 1 hS ?_;refine tA 2 hS ?_;refine tA 3 hS ?_;refine tA 4 hS ?_;refine tA 5 hS ?_;refine tA 6 hS ?_;refine tC 7 hS ?_;simp only[Act.put,Za,Zd,Zc];refine tA 8 hS ?_;refine tA 9 hS ?_;refine tA 10 hS ?_;simp only[Act.put,Za,Zd,Zc];refine Z9 (by kernel_rfl) ?_
       clear hS;gi_wp2_with fail
       refine⟨⟨i+1,gs'++[(h::t)++[x]],hlt,by go_num,HNX.out.symm,by rw[HHL.out];omega,HBE.out,RSM.push (gs:=gs') (HCS.out.trans HGM.out.symm) (by rw[HGM.out];exact HRE.out) (HEL5.out) HTE.out ?_⟩,by simp[intOf]<;>omega⟩
       have h7:=HRT5.out.keep HTE.out;rw[show min ht x.1.2.ttl=ht by omega] at h7
       exact h7
    ·have hbq:(h.1.2.type == x.1.2.type)=false:=by rw[beq_eq_false_iff_ne];exact hty
     have HNX:Hid (grp (c.take (i+1))=(gs'++[h::t])++[[x]]):=by
      show _=_;rw[HE2.out,if_neg];unfold Rs.P;rw[hbq];simp
     refine tA 14 hS ?_;refine tA 15 hS ?_;refine tA 16 hS ?_;refine tA 17 hS ?_;refine tC 18 hS ?_;refine tA 19 hS ?_;refine tA 20 hS ?_;refine tA 21 hS ?_;simp only[Act.put,Za,Zd,Zc];refine tA 22 hS ?_;refine tA 23 hS ?_;refine tA 24 hS ?_;refine tA 25 hS ?_;refine tA 26 hS ?_;refine tA 27 hS ?_;refine tA 28 hS ?_;simp only[Act.put,Za,Zd,Zc];refine Z9 (by kernel_rfl) ?_
     clear hS;gi_wp2_with fail
     refine Z8 (List.range 26) (Cs [(e,.slice p0 n0 q0),(⟨e.block,e.off+1,none⟩,.int .u32 (x.1.2.ttl:Int)),(⟨e.block,e.off+2,none⟩,.int .i64 x.1.2.type),(⟨e.block,e.off+3,none⟩,.slice p1 n1 q1),(⟨e.block,e.off+4,none⟩,.slice p2 n2 q2),(⟨e.block,e.off+5,none⟩,.slice p3 n3 q3),(⟨e.block,e.off+6,none⟩,.slice p4 n4 q4),(⟨e.block,e.off+2+1,none⟩,.slice p1 n1 q1),(⟨e.block,e.off+2+2,none⟩,.slice p2 n2 q2),(⟨e.block,e.off+2+3,none⟩,.slice p3 n3 q3),(⟨e.block,e.off+2+4,none⟩,.slice p4 n4 q4)]) 27 rfl (by kernel_rfl) ?_
     intro wj hwj;have HBJ:Hid (Below w1.heap.size w1 wj):=by subst hwj;exact (HBD.out).drew
     have HBW:Hid (Below wd.heap.size wd wj):=by subst hwj;exact (Below.refl wd.heap.size wd).drew
     have hS:Cs [(e,.slice p0 n0 q0),(⟨e.block,e.off+1,none⟩,.int .u32 (x.1.2.ttl:Int)),(⟨e.block,e.off+2,none⟩,.int .i64 x.1.2.type),(⟨e.block,e.off+3,none⟩,.slice p1 n1 q1),(⟨e.block,e.off+4,none⟩,.slice p2 n2 q2),(⟨e.block,e.off+5,none⟩,.slice p3 n3 q3),(⟨e.block,e.off+6,none⟩,.slice p4 n4 q4),(⟨e.block,e.off+2+1,none⟩,.slice p1 n1 q1),(⟨e.block,e.off+2+2,none⟩,.slice p2 n2 q2),(⟨e.block,e.off+2+3,none⟩,.slice p3 n3 q3),(⟨e.block,e.off+2+4,none⟩,.slice p4 n4 q4)] wj:=HXS.out wj HBJ.out;clear hwj;refine tA 0 hS ?_;refine tA 1 hS ?_;refine tA 2 hS ?_;refine tA 3 hS ?_;refine tA 4 hS ?_;refine tA 5 hS ?_;refine tA 6 hS ?_;refine tA 7 hS ?_;simp only[Act.put,Za,Zd,Zc];refine tA 8 hS ?_;refine tA 9 hS ?_;refine tA 10 hS ?_;refine tA 11 hS ?_;refine tA 12 hS ?_;refine tA 13 hS ?_;refine tA 14 hS ?_;refine tA 15 hS ?_;simp only[Act.put,Za,Zd,Zc];refine tA 16 hS ?_;refine tA 17 hS ?_;refine tA 18 hS ?_;refine tA 19 hS ?_;refine tA 20 hS ?_;refine tA 21 hS ?_;simp only[Act.put,Za,Zd,Zc];refine oneH 22 (by rfl) (by kernel_rfl) (fun K hK=>?_)
     gi_wp2_with fail
     obtain⟨wk,hwk⟩:=Zq (wj.alloc (.cells #[.int .i64 x.1.2.type,.slice p1 n1 q1,.slice p2 n2 q2,.slice p3 n3 q3,.slice p4 n4 q4] 117));obtain⟨b107,hb107⟩:=Zq wj.heap.size;have hg107:GRd 5 (.slice (some ⟨b107,0,none⟩) 1 1) [encD x] wk:=by
      rw[<-hwk,<-hb107,HED.out];exact GRd.new [.int .i64 x.1.2.type,.slice p1 n1 q1,.slice p2 n2 q2,.slice p3 n3 q3,.slice p4 n4 q4] rfl (by simp[Value.oneCell']) wj 117
     have ha107:Below wj.heap.size wj wk:=by rw[<-hwk];exact Zr
     have hk107:∃c f,wk.heap[b107]? = some (.cells c 117 f):=by
      rw[<-hwk,<-hb107];exact⟨_,_,World.alloc_heap_new wj _⟩
     rw[hwk,hb107];have HG107:=Hd hg107;have HA107:=Hd ha107;have HK107:=Hd hk107;have HBK:=Hd (Z5 HBJ.out ha107);have HWK:=Hd (Z5 HBW.out ha107);refine hK _ _ (fun _=>HXS.out _ HBK.out) ?_
     clear hK K hwk hb107 hg107 ha107 hk107;refine oneH 23 (by rfl) (by kernel_rfl) (fun K hK=>?_)
     gi_wp2_with fail
     refine hK _ _ (fun _=>HXS.out _ HBK.out) ?_
     clear hK K;refine oneH 24 (by rfl) (by kernel_rfl) (fun K hK=>?_)
     gi_wp2_with fail
     obtain⟨wl,hwl⟩:∃W,wk.alloc (.cells #[.slice p0 n0 q0,.int .i64 x.1.2.type,.int .u32 (x.1.2.ttl:Int),.slice (some ⟨b107,0,none⟩) 1 1] 146)=W:=⟨_,rfl⟩;obtain⟨b109,hb109⟩:=Zq wk.heap.size;have hg109:GRd 4 (.slice (some ⟨b109,0,none⟩) 1 1) [[.slice p0 n0 q0,.int .i64 x.1.2.type,.int .u32 (x.1.2.ttl:Int),.slice (some ⟨b107,0,none⟩) 1 1]] wl:=by
      rw[<-hwl,<-hb109];exact GRd.new [.slice p0 n0 q0,.int .i64 x.1.2.type,.int .u32 (x.1.2.ttl:Int),.slice (some ⟨b107,0,none⟩) 1 1] rfl (by simp[Value.oneCell']) wk 146
     have ha109:Below wk.heap.size wk wl:=by rw[<-hwl];exact Zr
     rw[hwl,hb109];have HG109:=Hd hg109;have HA109:=Hd ha109;have HBL:=Hd (Z5 HBK.out ha109);have HWL:=Hd (Z5 HWK.out ha109);refine hK _ _ (fun _=>HXS.out _ HBL.out) ?_
     clear hK K hwl hb109 hg109 ha109;have HRL:=Hd ((HRD.out).below HWL.out);have HSZ:Hid (w1.heap.size<=wl.heap.size):=HBL.out.size;refine oneH 25 (by rfl) (by kernel_rfl) (fun K hK=>?_)
     gi_wp2_with (gi_at_builtin;go_loud (refine Z7 (fun g=>w1.heap.size<=g) 146 _ 4 64 info_rset rfl (by decide) rfl _ _ _ Tryz.underlying142 rfl _ (m+1) (css++[[.slice po no qo,.int .i64 h.1.2.type,.int .u32 (ht:Int),.slice od (t.length+1) cd]]) (by rfl) HRL.out _ [[.slice p0 n0 q0,.int .i64 x.1.2.type,.int .u32 (x.1.2.ttl:Int),.slice (some ⟨b107,0,none⟩) 1 1]] (by rfl) HG109.out (by simp<;>omega) (by omega) HSZ.out ?_);intro v110 wm hrow110 hgr110;have HR110:=Hd hrow110;have HG110:=Hd hgr110;clear hrow110 hgr110)
     refine hK _ _ (fun _=>HXS.out _ (HBL.out.grown HG110.out HBL.out.size (fun g hg=>HRL.out.2 g hg))) ?_
     clear hK K;refine oneH 26 (by rfl) (by kernel_rfl) (fun K hK=>?_)
     gi_wp2_with fail
     refine hK _ _ (fun h=>absurd h (by decide)) ?_
     clear hK K;refine Z9 (by kernel_rfl) ?_
     clear hS;gi_wp2_with fail
     refine⟨⟨i+1,(gs'++[h::t])++[[x]],hlt,by go_num,?_,by first|(simp;done)|(have hm':gs'.length=m:=HGM.out;simp;omega),HBL.out.grown HG110.out HBL.out.size (fun g hg=>HRL.out.2 g hg),?_⟩,by simp[intOf]<;>omega⟩
     ·exact (HNX.out).symm
     ·have hty:TyKept 117 wl wm:=TyKept.grown HG110.out (fun g hg=>Row.typ HRL.out hg) (by decide)
      refine RSM.push (gs:=(gs'++[h::t])) HLA.out (by rw[HLN.out];exact HR110.out) HEA.out ((TyKept.below HWL.out).trans hty) ⟨⟨x,[],_,_,_,_,_,rfl,by rw[show Rs.ttl x.1.2 (plE [x])=x.1.2.ttl from Nat.min_self _];rfl,HXO.out,?_⟩,fun po t tt od n cd e a ha=>?_⟩
      ·have hd:GRd 5 (.slice (some ⟨b107,0,none⟩) 1 1) [encD x] wm:=GRd.grown75 (HG107.out.below HA109.out) HG110.out (fun g' hg' e'=>by
        obtain⟨c1,f1,h1⟩:=Row.typ HRL.out hg';obtain⟨c2,f2,h2⟩:=HK107.out;have h3:=(TyKept.below HA109.out) _ _ _ h2;rw[e',h3] at h1;have h4:=Option.some.inj h1;injection h4 with _ h5 _
        exact absurd h5 (by decide))
       exact datsRd_of (l:=[x]) hd
      ·cases e;cases ha
       obtain⟨c,f,h⟩:=HK107.out;exact⟨_,_,hty _ _ _ ((TyKept.below HA109.out) _ _ _ h)⟩
end Go.Proofs.YtgmbefolgppmdaaGreat
