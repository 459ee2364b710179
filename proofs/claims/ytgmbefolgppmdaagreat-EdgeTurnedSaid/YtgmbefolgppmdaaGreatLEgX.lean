/- edge.against: the walk. -/
import Derived.Test.YtgmbefolgppmdaaGreatLEgC
import Derived.Sort.CutIn
import Derived.Test.YtgmbefolgppmdaaGreatLAli
namespace Go.Proofs.YtgmbefolgppmdaaGreat
open Go.RowKit Go.Shelf Go.Sort
set_option maxRecDepth 100000
section
attribute [local go_sem] Oper.semAt_some
theorem Row.slf {R:Nat->Prop} {e:TypeId} {sz n:Nat} {v:Value} {xs:List Value} {W:World} (h:Row R e sz v n xs W):∃o c,v=.slice o n c/\n<=c/\c<=maxLen:=by
 obtain⟨⟨_,ho⟩,_⟩:=h;rcases ho with⟨rfl,h0⟩|⟨g,cap,cur,rfl,_,_,h1,h2,_⟩
 ·exact⟨none,0,by rw[h0],by omega,by unfold maxLen;omega⟩
 ·exact⟨_,_,rfl,by assumption,by assumption⟩
section
variable {w:World}
set_option maxHeartbeats 16000000 in
theorem against_any {w0:World} (hb0:Below w.heap.size w w0) (z c:ZE w) (i:Nat) (hi24:i<=1000) (cs:List Value) (ke:List (El w)) (hs:SetC cs ke w0) (hk:ke.length<=60) :
  Calls Tryz.prog 55 #[.agg (encZ z).toArray,.agg cs.toArray,.agg (encZ c).toArray,.int .i64 (i:Int)] w0 (EgR (w:=w) (Eg.pair z.origin (plE z.recs) (plE ke) c.origin (plE c.recs) (i:Int)) w0):=by
 obtain⟨x,xs,po,no,qo,od,cd,hkx,rfl,hor,hda⟩:=id hs;have hIP:Eg.innerP (plE ke)=(Rs.targets x.1.2.type (plE ke)).filter fun n=>Nm.under n x.1.2.owner:=by rw[hkx];rfl
 have hOW:Eg.ownerOf (plE ke)=x.1.2.owner:=by rw[hkx];rfl
 have hil:(Eg.innerP (plE ke)).length<=60:=by
  rw[hIP];refine Nat.le_trans (List.length_filter_le _ _) ?_;unfold Rs.targets;split
  ·exact Nat.le_trans (List.length_filterMap_le _ _) (by rw[zH];exact hk)
  ·simp
 obtain⟨inn,hinn⟩:=Zq (Eg.innerP (plE ke));obtain⟨own,hown⟩:=Zq (Eg.ownerOf (plE ke));rw[hinn] at hil;have HIT0:=Hd <| inner1_iter (w:=w) EgT (by unfold EgT;decide) (by unfold EgT;decide)
 obtain⟨oo,co,hzo,_,_⟩:=z.ho.form;obtain⟨or,cr,hzr⟩:∃o cap,z.vr=.slice o z.recs.length cap:=by obtain⟨_,o,cap,h,_⟩:=z.hr;exact⟨o,cap,by rw[h,Zf]⟩
 obtain⟨ox,cx,hcx,_,_⟩:=c.ho.form;obtain⟨ow,cw,hcw⟩:∃o cap,c.vr=.slice o c.recs.length cap:=by obtain⟨_,o,cap,h,_⟩:=c.hr;exact⟨o,cap,by rw[h,Zf]⟩
 have hze:encZ z=[.slice oo z.origin.length co,.slice or z.recs.length cr]:=by unfold encZ;rw[hzo,hzr]
 have hce:encZ c=[.slice ox c.origin.length cx,.slice ow c.recs.length cw]:=by unfold encZ;rw[hcx,hcw]
 have hzor:=z.ho;rw[hzo] at hzor;have hzrr:=z.hr;rw[hzr] at hzrr;have hcor:=c.ho;rw[hcx] at hcor;have hcrr:=c.hr;rw[hcw] at hcrr;rw[hze,hce];have HZO:=Hd hzor;have HOR:Hid (Rd (.slice po no qo) own w):=by show Rd _ _ _;rw[<-hown,hOW];exact hor
 have HNBZ:=Hd z.nb;have HNBO:Hid (NB own):=by show NB _;rw[<-hown,hOW];exact x.2.2.owner
 have HS2:Hid (∀W',Below w.heap.size w W'->Calls Tryz.prog 84 #[.slice ow c.recs.length cw,.slice ox c.origin.length cx,.int .i64 2] W' (OfR c.recs c.origin 2 W')):=fun W' hW=>rsetOf_any _ _ c.recs c.origin 2 hW (hcrr.kept hW) (by have:=c.len;omega) (hcor.below hW) c.nb
 have HSZ:Hid (∀W' vh h,Below w.heap.size w W'->Rd vh h w->NB h->Calls Tryz.prog 84 #[.slice or z.recs.length cr,vh,.int .i64 1] W' (OfR z.recs h 1 W')):=fun W' vh h hW hv hn=>rsetOf_any _ _ z.recs h 1 hW (hzrr.kept hW) (by have:=z.len;omega) (hv.below hW) hn
 have HSC:Hid (∀W' vh h,Below w.heap.size w W'->Rd vh h w->NB h->Calls Tryz.prog 84 #[.slice ow c.recs.length cw,vh,.int .i64 1] W' (OfR c.recs h 1 W')):=fun W' vh h hW hv hn=>rsetOf_any _ _ c.recs h 1 hW (hcrr.kept hW) (by have:=c.len;omega) (hv.below hW) hn
 have HPZ:=Hd (fun l:List (El w)=>(zH l))
 have HZL:=Hd z.len;have HCL:=Hd c.len;obtain⟨zn,hzn⟩:=Zq z.origin.length;obtain⟨zl,hzl⟩:=Zq z.recs.length;obtain⟨cn,hcn⟩:=Zq c.origin.length;obtain⟨cl,hcl⟩:=Zq c.recs.length;obtain⟨ty,hty⟩:=Zq x.1.2.type;obtain⟨tt,htt⟩:=Zq (Rs.ttl x.1.2 (plE ke));obtain⟨kl,hkl⟩:=Zq ke.length;rw[hzn,hzl,hcn,hcl,hty,htt,hkl];rw[hcl,hcn] at HS2;rw[hzl] at HSZ;rw[hcl] at HSC;rw[hzn] at HZO;rw[hty,htt,hkl] at hs;rw[hkl] at hda hk;have HSCT:=Hd hs;have HDA:=Hd hda;have HKK:Hid (ke.length<=60):=by show _<=_;rw[hkl];exact hk
 obtain⟨first,hfirst⟩:∃l,(if Rs.sameDats (plE ke) (Rs.mine (plE c.recs) c.origin 2) then [] else [(⟨1,z.origin,own,[],(i:Int)⟩:PEg)])=l:=⟨_,rfl⟩
 have HFI:=Hd hfirst;have HF1:Hid (first.length<=1):=by show _<=_;rw[<-hfirst];split<;>simp
 obtain⟨G,hG⟩:∃F,Eg.glue1 z.origin own (plE z.recs) (plE c.recs) (i:Int)=F:=⟨_,rfl⟩;have HG:=Hd hG;have HTOT:Hid (Eg.pair z.origin (plE z.recs) (plE ke) c.origin (plE c.recs) (i:Int)=first++inn.flatMap G):=by
  show _=_;unfold Eg.pair;rw[hinn,hown,hfirst,hG]
 have HGL:Hid (∀h,(G h).length<=1):=fun h=>by rw[<-hG];exact Eg.glue1_len _ _ _ _ _ _
 have HINL:=Hd hil;have HB0:=Hd hb0;have iz:(i:Int)<=1000:=by omega
 obtain⟨W5,hW5⟩:∃W,((((w0.alloc (.cells #[.slice oo zn co,.slice or zl cr] 54)).alloc (.cells #[.slice po no qo,.int .i64 ty,.int .u32 (tt:Int),.slice od kl cd] 89)).alloc (.cells #[.slice ox cn cx,.slice ow cl cw] 54)).alloc (.cells #[.slice none 0 0] 29)).alloc (.cells #[.int .i64 0,.slice oo zn co,.slice po no qo,.slice none 0 0,.int .i64 (i:Int)] 45)=W:=⟨_,rfl⟩;have hM0:AgM w0.heap.size (.slice oo zn co) (.slice or zl cr) (.slice po no qo) (.int .i64 ty) (.int .u32 (tt:Int)) (.slice od kl cd) (.slice ox cn cx) (.slice ow cl cw) (i:Int) ([]:List (ElG w)) w0 W5:=by
  have s1:(w0.alloc (.cells #[.slice oo zn co,.slice or zl cr] 54)).heap.size=w0.heap.size+1:=by simp
  have s2:((w0.alloc (.cells #[.slice oo zn co,.slice or zl cr] 54)).alloc (.cells #[.slice po no qo,.int .i64 ty,.int .u32 (tt:Int),.slice od kl cd] 89)).heap.size=w0.heap.size+2:=by simp
  have s3:(((w0.alloc (.cells #[.slice oo zn co,.slice or zl cr] 54)).alloc (.cells #[.slice po no qo,.int .i64 ty,.int .u32 (tt:Int),.slice od kl cd] 89)).alloc (.cells #[.slice ox cn cx,.slice ow cl cw] 54)).heap.size=w0.heap.size+3:=by simp
  have s4:((((w0.alloc (.cells #[.slice oo zn co,.slice or zl cr] 54)).alloc (.cells #[.slice po no qo,.int .i64 ty,.int .u32 (tt:Int),.slice od kl cd] 89)).alloc (.cells #[.slice ox cn cx,.slice ow cl cw] 54)).alloc (.cells #[.slice none 0 0] 29)).heap.size=w0.heap.size+4:=by simp
  rw[<-hW5];refine⟨((((Blk.new w0 _ _).alloc _).alloc _).alloc _).alloc _,?_,?_,⟨.slice none 0 0,?_,Row.nil _ _ _ _⟩,⟨0,none,0,0,?_⟩,((((Zr).alloc (by simp) _).alloc (by simp;omega) _).alloc (by simp;omega) _).alloc (by simp;omega) _,by simp⟩
  ·have h:=(((Blk.new (w0.alloc (.cells #[.slice oo zn co,.slice or zl cr] 54)) #[.slice po no qo,.int .i64 ty,.int .u32 (tt:Int),.slice od kl cd] 89).alloc (.cells #[.slice ox cn cx,.slice ow cl cw] 54)).alloc (.cells #[.slice none 0 0] 29)).alloc (.cells #[.int .i64 0,.slice oo zn co,.slice po no qo,.slice none 0 0,.int .i64 (i:Int)] 45)
   rwa [s1] at h
  ·have h:=((Blk.new ((w0.alloc (.cells #[.slice oo zn co,.slice or zl cr] 54)).alloc (.cells #[.slice po no qo,.int .i64 ty,.int .u32 (tt:Int),.slice od kl cd] 89)) #[.slice ox cn cx,.slice ow cl cw] 54).alloc (.cells #[.slice none 0 0] 29)).alloc (.cells #[.int .i64 0,.slice oo zn co,.slice po no qo,.slice none 0 0,.int .i64 (i:Int)] 45)
   rwa [s2] at h
  ·have h:=(Box.new (((w0.alloc (.cells #[.slice oo zn co,.slice or zl cr] 54)).alloc (.cells #[.slice po no qo,.int .i64 ty,.int .u32 (tt:Int),.slice od kl cd] 89)).alloc (.cells #[.slice ox cn cx,.slice ow cl cw] 54)) 29 (.slice none 0 0)).alloc (.cells #[.int .i64 0,.slice oo zn co,.slice po no qo,.slice none 0 0,.int .i64 (i:Int)] 45)
   rwa [s3] at h
  ·have h:=Blk.new ((((w0.alloc (.cells #[.slice oo zn co,.slice or zl cr] 54)).alloc (.cells #[.slice po no qo,.int .i64 ty,.int .u32 (tt:Int),.slice od kl cd] 89)).alloc (.cells #[.slice ox cn cx,.slice ow cl cw] 54)).alloc (.cells #[.slice none 0 0] 29)) #[.int .i64 0,.slice oo zn co,.slice po no qo,.slice none 0 0,.int .i64 (i:Int)] 45
   rwa [s4] at h
 have HFB5:Hid (Blk (w0.heap.size+4) #[.int .i64 0,.slice oo zn co,.slice po no qo,.slice none 0 0,.int .i64 (i:Int)] 45 W5):=by
  show Blk _ _ _ _;have h:=Blk.new ((((w0.alloc (.cells #[.slice oo zn co,.slice or zl cr] 54)).alloc (.cells #[.slice po no qo,.int .i64 ty,.int .u32 (tt:Int),.slice od kl cd] 89)).alloc (.cells #[.slice ox cn cx,.slice ow cl cw] 54)).alloc (.cells #[.slice none 0 0] 29)) #[.int .i64 0,.slice oo zn co,.slice po no qo,.slice none 0 0,.int .i64 (i:Int)] 45;have s4:((((w0.alloc (.cells #[.slice oo zn co,.slice or zl cr] 54)).alloc (.cells #[.slice po no qo,.int .i64 ty,.int .u32 (tt:Int),.slice od kl cd] 89)).alloc (.cells #[.slice ox cn cx,.slice ow cl cw] 54)).alloc (.cells #[.slice none 0 0] 29)).heap.size=w0.heap.size+4:=by simp
  rw[s4,hW5] at h;exact h
 have HM0:=Hd hM0;have HINN:=Hd hinn;have d0:W5.cell? ⟨w0.heap.size+2,0,none⟩=some (.slice ox cn cx):=hM0.db.cell 0;have d1:W5.cell? ⟨w0.heap.size+2,1,none⟩=some (.slice ow cl cw):=hM0.db.cell 1;have HW5:=Hd hW5;clear hs hkx hor hda hIP hOW hinn hown hzo hzr hcx hcw hze hce hzor hzrr hcor hcrr hzn hzl hcn hcl hty htt hkl hfirst hG hil hb0 hM0 hW5 hk hi24;refine (zF (n:=0)).1 ?_;refine callsIn_of_wp_marks Tryz.func55 rfl trivial ?_ rfl;simp only[Tryz.ntmps55,Zo,Ze,Zg,Nat.reduceAdd,Nat.reduceSub,Zi,Zj,Zk,Zl,Zm,Zp];gi_wp2_with fail
 rw[show w0.heap.size+1+1+1+1=w0.heap.size+4 from rfl,show w0.heap.size+1+1+1=w0.heap.size+3 from rfl,show w0.heap.size+1+1=w0.heap.size+2 from rfl,HW5.out]
 clear d0 d1 HW5;refine (callsIn_wide.2 (HS2.out W5 (Z5 HB0.out HM0.out.below))).mono ?_;rintro e W6 ⟨c1,v1,hc1,hl1,rfl,hv1,b6⟩;obtain⟨p1,n1,q1,t1,tt1,od1,m1,cd1,rfl,hd1⟩:=of_set hc1 hv1;have HM6:=Hd (HM0.out.on b6);have HFB6:=Hd (HFB5.out.below b6);obtain⟨bS,hbS⟩:=Zq (Rs.sameDats (plE ke) (Rs.mine (plE c.recs) c.origin 2));rw[hbS] at HFI;have HEQ:Hid (∀W',Below W6.heap.size W6 W'->Calls Tryz.prog 85 #[.agg #[.slice po no qo,.int .i64 ty,.int .u32 (tt:Int),.slice od kl cd],.agg #[.slice p1 n1 q1,.int .i64 t1,.int .u32 (tt1:Int),.slice od1 m1 cd1]] W' (Gives (.bool bS) W')):=fun W' hW=>by
  have hW0:Below w0.heap.size w0 W':=Z5 HM6.out.below hW;have:=setEqual_any po no qo ty tt p1 n1 q1 t1 tt1 (.slice od kl cd) (.slice od1 m1 cd1) ke c1 (Z5 HB0.out hW0) (HDA.out.below hW0) (hd1.below hW) (by have:=HKK.out;omega) (by have:=c.len;omega)
  rw[hc1,hbS] at this;exact this
 have hnb:Below W6.heap.size W6 (W6.alloc (.cells #[.slice p1 n1 q1,.int .i64 t1,.int .u32 (tt1:Int),.slice od1 m1 cd1] 89)):=Zr;have HNB6:=Hd hnb;have HM7:=Hd (HM6.out.on hnb);have HFB7:=Hd (HFB6.out.below hnb);have c0:(W6.alloc (.cells #[.slice p1 n1 q1,.int .i64 t1,.int .u32 (tt1:Int),.slice od1 m1 cd1] 89)).cell? ⟨w0.heap.size+1,0,none⟩=some (.slice po no qo):=HM7.out.cb.cell 0;have c1':(W6.alloc (.cells #[.slice p1 n1 q1,.int .i64 t1,.int .u32 (tt1:Int),.slice od1 m1 cd1] 89)).cell? ⟨w0.heap.size+1,1,none⟩=some (.int .i64 ty):=HM7.out.cb.cell 1;have c2:(W6.alloc (.cells #[.slice p1 n1 q1,.int .i64 t1,.int .u32 (tt1:Int),.slice od1 m1 cd1] 89)).cell? ⟨w0.heap.size+1,2,none⟩=some (.int .u32 (tt:Int)):=HM7.out.cb.cell 2;have c3:(W6.alloc (.cells #[.slice p1 n1 q1,.int .i64 t1,.int .u32 (tt1:Int),.slice od1 m1 cd1] 89)).cell? ⟨w0.heap.size+1,3,none⟩=some (.slice od kl cd):=HM7.out.cb.cell 3;clear hc1 hl1 hv1 b6 hd1 hbS hnb HS2 HM0;gi_wp2_with fail
 refine (callsIn_wide.2 (HEQ.out _ HNB6.out)).mono ?_;rintro e W8 ⟨rfl,b8⟩;have HM8:=Hd (HM7.out.on b8);have HFB8:=Hd (HFB7.out.below b8);clear c0 c1' c2 c3 b8 HNB6 HM7 HM6 HEQ HFB5 HFB6 HFB7
 gi_upto_if 35 with fail
 gi_cut [] from 76 (fun W=>∃l:List (ElG w),AgM w0.heap.size (.slice oo zn co) (.slice or zl cr) (.slice po no qo) (.int .i64 ty) (.int .u32 (tt:Int)) (.slice od kl cd) (.slice ox cn cx) (.slice ow cl cw) (i:Int) l w0 W/\plG l=first)
 case first =>
  cases bS with
  | true =>
   have HF0:Hid ([]=first):=by have:=HFI.out;rw[if_pos rfl] at this;exact this
   gi_wp2_with fail
   gi_meet
   case rel=>exact⟨[],HM8.out,HF0.out⟩
  | false =>
   have HF0:Hid ([(⟨1,z.origin,own,[],(i:Int)⟩:PEg)]=first):=by have:=HFI.out;rw[if_neg (by simp)] at this;exact this
   have g0:W8.cell? ⟨w0.heap.size+4,0,none⟩=some (.int .i64 0):=HFB8.out.cell 0;have g0f:=HFB8.out.frozen 0
   gi_upto_region 6 with fail
   obtain⟨W9,hW9⟩:=Zq (W8.setCell ⟨w0.heap.size+4,0,none⟩ (.int .i64 1));have hf9:Blk (w0.heap.size+4) #[.int .i64 1,.slice oo zn co,.slice po no qo,.slice none 0 0,.int .i64 (i:Int)] 45 W9:=by
    have h:=HFB8.out.setAt 0 (.int .i64 1);rw[hW9] at h;exact h
   obtain⟨hm9,hk9,ho9⟩:=HM8.out.setF 0 (.int .i64 1) hW9 hf9;obtain⟨l,HL0⟩:∃l:List (ElG w),Hid (l=[]):=⟨[],rfl⟩;have HM9:Hid (AgM w0.heap.size (.slice oo zn co) (.slice or zl cr) (.slice po no qo) (.int .i64 ty) (.int .u32 (tt:Int)) (.slice od kl cd) (.slice ox cn cx) (.slice ow cl cw) (i:Int) l w0 W9):=by show AgM _ _ _ _ _ _ _ _ _ _ _ _ _;rw[HL0.out];exact hm9
   have HLEN:Hid (l.length<=61):=by show _<=_;rw[HL0.out];simp
   obtain⟨fx,hfx⟩:∃y:ElG w,y=⟨([.int .i64 1,.slice oo zn co,.slice po no qo,.slice none 0 0,.int .i64 (i:Int)],⟨1,z.origin,own,[],(i:Int)⟩),⟨_,_,_,rfl,HZO.out,HOR.out,Rd.nil w⟩,⟨HNBZ.out,HNBO.out,NB.nil'⟩⟩:=⟨_,rfl⟩;have HFX:=Hd hfx;have HFE:Hid ([fx].map encG=[[.int .i64 1,.slice oo zn co,.slice po no qo,.slice none 0 0,.int .i64 (i:Int)]]):=by show _=_;rw[hfx];rfl
   have f0:W9.cell? ⟨w0.heap.size+4,0,none⟩=some (.int .i64 1):=hf9.cell 0;have f1:W9.cell? ⟨w0.heap.size+4,1,none⟩=some (.slice oo zn co):=hf9.cell 1;have f2:W9.cell? ⟨w0.heap.size+4,2,none⟩=some (.slice po no qo):=hf9.cell 2;have f3:W9.cell? ⟨w0.heap.size+4,3,none⟩=some (.slice none 0 0):=hf9.cell 3;have f4:W9.cell? ⟨w0.heap.size+4,4,none⟩=some (.int .i64 (i:Int)):=hf9.cell 4;rw[hW9];clear g0 g0f hW9 hf9 hm9 hk9 ho9 HM8 hfx;obtain⟨vq,hbq,hrq⟩:=HM9.out.ob;obtain⟨oq,cq,rfl,_,_⟩:=Row.slf hrq;have c3:W9.cell? ⟨w0.heap.size+3,0,none⟩=some _:=hbq.cell;have hfz3:=hbq.frozen;obtain⟨lq,hlq⟩:=Zq l.length;have HLQ:=Hd hlq;rw[hlq] at hbq hrq c3;have HBQ:=Hd hbq;have HRQ:=Hd hrq;have hnb:Below W9.heap.size W9 (W9.alloc (.cells #[.int .i64 1,.slice oo zn co,.slice po no qo,.slice none 0 0,.int .i64 (i:Int)] 45)):=Zr;have HNB:=Hd hnb;clear hbq hrq hlq hnb;gi_wp2_with (gi_at_builtin;refine Z7 (fun g=>w0.heap.size+5<=g) 45 _ 5 88 info_eflaw rfl (by decide) rfl _ _ _ Tryz.underlying29 rfl _ lq (l.map encG) (by rfl) (HRQ.out.below HNB.out) _ [[.int .i64 1,.slice oo zn co,.slice po no qo,.slice none 0 0,.int .i64 (i:Int)]] (by rfl) (GRd.new [.int .i64 1,.slice oo zn co,.slice po no qo,.slice none 0 0,.int .i64 (i:Int)] rfl (by simp[Value.oneCell']) W9 45) (by have:=HLEN.out;rw[HLQ.out] at this;simp;omega) (by omega) (by have:=HM9.out.size;simp;omega) ?_;intro v10 w10 hrow10 hgr10;obtain⟨o10,c10,e10⟩:=hrow10.form;subst e10;have y2:Box (w0.heap.size+3) 29 (.slice oq lq cq) w10:=(hgr10.block _ (by have:=HM9.out.size;simp;omega) (fun e=>by have:=HRQ.out.2 _ e.symm;omega)).trans (HBQ.out.below HNB.out);have y0:=y2.cell;have y1:=y2.frozen;have HR10:=Hd hrow10;have HG10:=Hd hgr10;clear hrow10 hgr10 y2)
   have HP:=AgM.push (l:=l) (m:=[fx]) HM9.out HNB.out (HBQ.out.below HNB.out) (by rw[HLQ.out];exact HRQ.out.below HNB.out) (by rw[HLQ.out,HFE.out];exact HR10.out) HG10.out
   obtain⟨hp1,hp2,hp3,hp4⟩:=HP;clear y0 y1 HR10 HG10
   gi_meet
   case rel =>
    refine⟨l++[fx],?_,?_⟩
    ·exact hp1
    ·rw[HL0.out,<-HF0.out,HFX.out];rfl
 case rest =>
 obtain⟨l0,hM9,hpl⟩:=hcut;obtain⟨W9,rfl⟩:∃W,W=wc:=⟨_,rfl⟩;have HM9:=Hd hM9;have HPL:=Hd hpl;have c0:W9.cell? ⟨w0.heap.size+1,0,none⟩=some (.slice po no qo):=hM9.cb.cell 0;have c1':W9.cell? ⟨w0.heap.size+1,1,none⟩=some (.int .i64 ty):=hM9.cb.cell 1;have c2:W9.cell? ⟨w0.heap.size+1,2,none⟩=some (.int .u32 (tt:Int)):=hM9.cb.cell 2;have c3:W9.cell? ⟨w0.heap.size+1,3,none⟩=some (.slice od kl cd):=hM9.cb.cell 3;clear hM9 hpl HM8 HFB8 HFI;gi_wp2_with fail
 refine (callsIn_wide.2 (inner_any _ _ _ _ W9)).mono ?_;rintro e Ws ⟨rfl,hWs⟩;clear c0 c1' c2 c3;have hbs:Below W9.heap.size W9 Ws:=by rw[<-hWs];exact Zr
 have hks:Blk W9.heap.size #[.slice po no qo,.int .i64 ty,.int .u32 (tt:Int),.slice od kl cd] 89 Ws:=by rw[<-hWs];exact Blk.new W9 _ _
 have hss:Ws.heap.size=W9.heap.size+1:=by rw[<-hWs];simp
 have hMs:=HM9.out.on hbs;have hsz9:=HM9.out.size;clear hWs;gi_wp2_with fail
 refine rf_outer3 rfl (enters_of Tryz.func80 (by kernel_rfl) rfl) (HIT0.out W9.heap.size [.slice po no qo,.int .i64 ty,.int .u32 (tt:Int),.slice od kl cd] ke HKK.out)
  (fun A B h=>egSt.others h) (fun _ _ _ h k=>h.trans k) (fun A r o hr=>egKp.put (by have:=HB0.out.size;omega) (fun c t f h=>by rw[hr] at h;cases h) o)
  (fun _ _ _ _ ⟨_,_,_,h,_⟩=>by subst h;rfl)
  (fun k W=>∃l:List (ElG w),AgM w0.heap.size (.slice oo zn co) (.slice or zl cr) (.slice po no qo) (.int .i64 ty) (.int .u32 (tt:Int)) (.slice od kl cd) (.slice ox cn cx) (.slice ow cl cw) (i:Int) l w0 W/\Hid (plG l++k.flatMap G=first++inn.flatMap G))
  (fun _ _ _ ⟨l,h,k⟩ hb=>⟨l,h.on hb,k⟩) (fun _ _ r o ⟨l,h,k⟩ hr=>⟨l,h.put (by omega) hr o,k⟩)
  (fun rr=>?start) (fun rr=>?pre) ?round ?done
 case start=>exact⟨l0,(hMs.on (Zr)).on (Zr),by show _=_;rw[HPL.out,HINN.out]⟩
 case pre =>
  have hb2:Below Ws.heap.size Ws ((Ws.alloc (.deferred (some []))).alloc (.loop rr)):=(Zr).alloc (by simp) _
  exact⟨hks.below hb2,HSCT.out.keep (CellsKept.below (Z5 hMs.below hb2)),Z5 (Z5 HB0.out hMs.below) hb2⟩
 case done =>
  rintro k W rfl ⟨l,hM,hpl⟩ hKd;obtain⟨v,hbx,hrow⟩:=hM.ob;have g0:=hbx.cell;have HRW:=Hd hrow;have HPLL:Hid (plG l=first++inn.flatMap G):=by have:=hpl.out;rw[List.flatMap_nil,List.append_nil] at this;exact this
  have HBE:=Hd hM.below;have HSE:=Hd hM.size;have HKD:=Hd hKd;clear hM hpl hKd hMs hks hbs hbx hrow;gi_wp2_with fail
  refine leaveD rfl HKD.out (results_tmp rfl _ _ _) ?_;have hck:=CellsKept.putD HKD.out (.deferred none);refine⟨_,l,rfl,GRd.cells_kept (Row.grd (by rw[Zf];exact HRW.out) (fun c hc=>?_)) hck,?_,below_putD HBE.out (by omega) (by have:=HSE.out;omega) _⟩
  ·obtain⟨y,_,rfl⟩:=List.mem_map.1 hc
   exact⟨encG_len y,encG_one y⟩
  ·rw[HPLL.out,<-HTOT.out]
 case round =>
  rintro lp k k' v W ⟨l,hM,hpl⟩ ⟨n,u,rfl,rfl,hu,hnb⟩;obtain⟨ou,cu,rfl,_,_⟩:=hu.form;have HM:=Hd hM;have HU:=Hd hu;have HNBH:=Hd hnb;have HSL:=Hd hsz9;obtain⟨un,hun⟩:=Zq n.length;rw[hun] at HU ⊢;clear hM hu hnb hun hMs hks hbs;gi_wp2
  refine⟨KeepsOthers.refl _,egKp.refl _ _ _,fun rr o hl hr=>?_⟩
  obtain⟨A,hA⟩:=Zq (W.putObj (Ws.heap.size+1) (.loop o));have HMA:Hid (AgM w0.heap.size (.slice oo zn co) (.slice or zl cr) (.slice po no qo) (.int .i64 ty) (.int .u32 (tt:Int)) (.slice od kl cd) (.slice ox cn cx) (.slice ow cl cw) (i:Int) l w0 A):=by show AgM _ _ _ _ _ _ _ _ _ _ _ _ _;rw[<-hA];exact HM.out.put (by omega) hr (.loop o)
  rw[hA];clear hA hr hl HM;have a1:A.cell? ⟨w0.heap.size,1,none⟩=some (.slice or zl cr):=HMA.out.zb.cell 1;gi_wp2_with fail
  refine (CallsIn.inRound _ (callsIn_wide.2 (HSZ.out A (.slice ou un cu) n (Z5 HB0.out HMA.out.below) HU.out HNBH.out))).mono ?_;rintro e W2 ⟨ca,va,hca,_,rfl,hva,b2⟩;obtain⟨pa,na,qa,ta,tta,oda,ma,cda,rfl,hda2⟩:=of_set hca hva;have HB2:=Hd b2;have HM2:=Hd (HMA.out.on b2);have hnb2:Below W2.heap.size W2 (W2.alloc (.cells #[.slice pa na qa,.int .i64 ta,.int .u32 (tta:Int),.slice oda ma cda] 89)):=Zr;have HNB2:=Hd hnb2;have HBX2:Hid (Blk W2.heap.size #[.slice pa na qa,.int .i64 ta,.int .u32 (tta:Int),.slice oda ma cda] 89 (W2.alloc (.cells #[.slice pa na qa,.int .i64 ta,.int .u32 (tta:Int),.slice oda ma cda] 89))):=Blk.new W2 _ _;have HCA:=Hd hca;have HDA2:=Hd hda2;have b1:(W2.alloc (.cells #[.slice pa na qa,.int .i64 ta,.int .u32 (tta:Int),.slice oda ma cda] 89)).cell? ⟨w0.heap.size+2,1,none⟩=some (.slice ow cl cw):=(HM2.out.on hnb2).db.cell 1;obtain⟨ea,hea⟩:=Zq ca.isEmpty;have HEA:=Hd hea;rw[hea];clear a1 b2 hnb2 hca hva hda2 hea;gi_wp2_with fail
  refine (CallsIn.inRound _ (callsIn_wide.2 (HSC.out _ (.slice ou un cu) n (Z5 HB0.out (Z5 HM2.out.below HNB2.out)) HU.out HNBH.out))).mono ?_;rintro e W4 ⟨cb,vb,hcb,_,rfl,hvb,b4⟩;obtain⟨pb,nb,qb,tb,ttb,odb,mb,cdb,rfl,hdb2⟩:=of_set hcb hvb;have HB4:=Hd (Z5 HNB2.out b4);have HM4:=Hd (HM2.out.on HB4.out);have HBX4:=Hd (HBX2.out.below b4);have HCB:=Hd hcb;have HDB2:=Hd hdb2;obtain⟨eb,heb⟩:=Zq cb.isEmpty;have HEB:=Hd heb;rw[heb];have hnb4:Below W4.heap.size W4 (W4.alloc (.cells #[.slice pb nb qb,.int .i64 tb,.int .u32 (ttb:Int),.slice odb mb cdb] 89)):=Zr;obtain⟨W5',hW5'⟩:∃W,W4.alloc (.cells #[.slice pb nb qb,.int .i64 tb,.int .u32 (ttb:Int),.slice odb mb cdb] 89)=W:=⟨_,rfl⟩;rw[hW5'] at hnb4;have HB5:=Hd (Z5 HB2.out (Z5 HB4.out hnb4));have HM5:=Hd (HM4.out.on hnb4);obtain⟨bE,hbE⟩:=Zq (Rs.sameDats (Rs.mine (plE z.recs) n 1) (Rs.mine (plE c.recs) n 1));have HGN:Hid (G n=if (!ea&&!eb&&!bE) then [(⟨2,z.origin,own,n,(i:Int)⟩:PEg)] else []):=by
   show _=_;have h1:(Rs.mine (plE z.recs) n 1).isEmpty=ea:=by rw[<-HCA.out,<-HEA.out];unfold plE;rw[List.isEmpty_map]
   have h2:(Rs.mine (plE c.recs) n 1).isEmpty=eb:=by rw[<-HCB.out,<-HEB.out];unfold plE;rw[List.isEmpty_map]
   rw[<-HG.out];unfold Eg.glue1;rw[h1,h2,hbE]
  have HEQ:Hid (∀W',Below W5'.heap.size W5' W'->Calls Tryz.prog 85 #[.agg #[.slice pa na qa,.int .i64 ta,.int .u32 (tta:Int),.slice oda ma cda],.agg #[.slice pb nb qb,.int .i64 tb,.int .u32 (ttb:Int),.slice odb mb cdb]] W' (Gives (.bool bE) W')):=fun W' hW=>by
   have hW0:Below w0.heap.size w0 W':=Z5 HM5.out.below hW;have hle1:ca.length<=1000:=by rename_i hl1 hl2;have:=HZL.out;omega
   have hle2:cb.length<=1000:=by rename_i hl1 hl2;have:=HCL.out;omega
   have:=setEqual_any pa na qa ta tta pb nb qb tb ttb (.slice oda ma cda) (.slice odb mb cdb) ca cb (Z5 HB0.out hW0) (HDA2.out.below (Z5 HB4.out (Z5 hnb4 hW))) (HDB2.out.below (Z5 hnb4 hW)) hle1 hle2
   rw[HCA.out,HCB.out,hbE] at this;exact this
  have x0:W5'.cell? ⟨W2.heap.size,0,none⟩=some _:=(HBX4.out.below hnb4).cell 0;have x1:W5'.cell? ⟨W2.heap.size,1,none⟩=some _:=(HBX4.out.below hnb4).cell 1;have x2:W5'.cell? ⟨W2.heap.size,2,none⟩=some _:=(HBX4.out.below hnb4).cell 2;have x3:W5'.cell? ⟨W2.heap.size,3,none⟩=some _:=(HBX4.out.below hnb4).cell 3;have hbx5:Blk W4.heap.size #[.slice pb nb qb,.int .i64 tb,.int .u32 (ttb:Int),.slice odb mb cdb] 89 W5':=by rw[<-hW5'];exact Blk.new W4 _ _
  have y0:W5'.cell? ⟨W4.heap.size,0,none⟩=some _:=hbx5.cell 0;have y1:W5'.cell? ⟨W4.heap.size,1,none⟩=some _:=hbx5.cell 1;have y2:W5'.cell? ⟨W4.heap.size,2,none⟩=some _:=hbx5.cell 2;have y3:W5'.cell? ⟨W4.heap.size,3,none⟩=some _:=hbx5.cell 3;clear b1 b4 hcb hvb hdb2 heb hnb4 hbE hbx5;have HSAME:∀W',Below A.heap.size A W'->G n=[]->KeepsOthers A W'/\egKp EgT w A W'/\∃l:List (ElG w),AgM w0.heap.size (.slice oo zn co) (.slice or zl cr) (.slice po no qo) (.int .i64 ty) (.int .u32 (tt:Int)) (.slice od kl cd) (.slice ox cn cx) (.slice ow cl cw) (i:Int) l w0 W'/\Hid (plG l++k'.flatMap G=first++inn.flatMap G):=fun W' hW hg =>
   ⟨Z6 hW,egKp.below hW,l,HMA.out.on hW,by have:=hpl.out;rw[List.flatMap_cons,hg,Zm] at this;exact this⟩
  have HS:=Hd HSAME;clear HSAME;cases ea with
  | true =>
   gi_wp2_with fail
   exact HS.out _ HB5.out (by rw[HGN.out];rfl)
  | false =>
  cases eb with
  | true =>
   gi_wp2_with fail
   exact HS.out _ HB5.out (by rw[HGN.out];rfl)
  | false =>
  gi_wp2_with fail
  refine (CallsIn.inRound _ (callsIn_wide.2 (HEQ.out _ (Below.refl _ _)))).mono ?_;rintro e W6 ⟨rfl,b6⟩;have HM6:=Hd (HM5.out.on b6);have HB6:=Hd (Z5 HB5.out b6);clear b6 x0 x1 x2 x3 y0 y1 y2 y3 hW5';cases bE with
  | true =>
   gi_wp2_with fail
   exact HS.out _ HB6.out (by rw[HGN.out];rfl)
  | false =>
  have HLEN:Hid (l.length<=61):=by
   have h1:=congrArg List.length hpl.out;have h2:=Eg.flatMap_len1 HGL.out inn;have h3:=HF1.out;have h4:=HINL.out;have h5:(plG l).length=l.length:=by simp[plG]
   rw[Zb,Zb,h5] at h1;show _<=_;omega
  obtain⟨kd,p6,n6,q6,hf6⟩:=HM6.out.fb;have g0:W6.cell? ⟨w0.heap.size+4,0,none⟩=some (.int .i64 kd):=hf6.cell 0;have g0f:=hf6.frozen 0;obtain⟨Wk,hWk⟩:=Zq (W6.setCell ⟨w0.heap.size+4,0,none⟩ (.int .i64 2));have hf7:Blk (w0.heap.size+4) #[.int .i64 2,.slice oo zn co,.slice po no qo,.slice p6 n6 q6,.int .i64 (i:Int)] 45 Wk:=by
   have h:=hf6.setAt 0 (.int .i64 2);rw[hWk] at h;exact h
  have g3:Wk.cell? ⟨w0.heap.size+4,3,none⟩=some (.slice p6 n6 q6):=hf7.cell 3;have g3f:=hf7.frozen 3
  gi_upto_region 13 with fail
  obtain⟨Wl,hWl⟩:=Zq (Wk.setCell ⟨w0.heap.size+4,3,none⟩ (.slice ou un cu));have hf8:Blk (w0.heap.size+4) #[.int .i64 2,.slice oo zn co,.slice po no qo,.slice ou un cu,.int .i64 (i:Int)] 45 Wl:=by
   have h:=hf7.setAt 3 (.slice ou un cu);rw[hWl] at h;exact h
  obtain⟨hm7,hk7,ho7⟩:=HM6.out.setF 0 (.int .i64 2) hWk hf7;obtain⟨hm8,hk8,ho8⟩:=hm7.setF 3 (.slice ou un cu) hWl hf8;have HBk:Hid (Below w0.heap.size W6 Wl):=by
   show Below _ _ _;rw[<-hWl,<-hWk];exact ((Below.refl _ W6).setCell (p:=⟨w0.heap.size+4,0,none⟩) (by simp) _).setCell (p:=⟨w0.heap.size+4,3,none⟩) (by simp) _
  have HKO:=Hd (And.intro ((keepT.below HB6.out).trans (hk7.trans hk8)) ((Z6 HB6.out).trans (ho7.trans ho8)));have HML:=Hd hm8;obtain⟨fx,hfx⟩:∃y:ElG w,y=⟨([.int .i64 2,.slice oo zn co,.slice po no qo,.slice ou un cu,.int .i64 (i:Int)],⟨2,z.origin,own,n,(i:Int)⟩),⟨_,_,_,rfl,HZO.out,HOR.out,HU.out⟩,⟨HNBZ.out,HNBO.out,HNBH.out⟩⟩:=⟨_,rfl⟩;have HFX:=Hd hfx;have HFE:Hid ([fx].map encG=[[.int .i64 2,.slice oo zn co,.slice po no qo,.slice ou un cu,.int .i64 (i:Int)]]):=by show _=_;rw[hfx];rfl
  have f0:Wl.cell? ⟨w0.heap.size+4,0,none⟩=some (.int .i64 2):=hf8.cell 0;have f1:Wl.cell? ⟨w0.heap.size+4,1,none⟩=some (.slice oo zn co):=hf8.cell 1;have f2:Wl.cell? ⟨w0.heap.size+4,2,none⟩=some (.slice po no qo):=hf8.cell 2;have f3:Wl.cell? ⟨w0.heap.size+4,3,none⟩=some (.slice ou un cu):=hf8.cell 3;have f4:Wl.cell? ⟨w0.heap.size+4,4,none⟩=some (.int .i64 (i:Int)):=hf8.cell 4;rw[hWl];clear g0 g0f g3 g3f hWk hWl hf6 hf7 hf8 hm7 hk7 ho7 hm8 hk8 ho8 hfx HM6;obtain⟨vq,hbq,hrq⟩:=HML.out.ob;obtain⟨oq,cq,rfl,_,_⟩:=Row.slf hrq;have c3:Wl.cell? ⟨w0.heap.size+3,0,none⟩=some _:=hbq.cell;have hfz3:=hbq.frozen;obtain⟨lq,hlq⟩:=Zq l.length;have HLQ:=Hd hlq;rw[hlq] at hbq hrq c3;have HBQ:=Hd hbq;have HRQ:=Hd hrq;have hnb:Below Wl.heap.size Wl (Wl.alloc (.cells #[.int .i64 2,.slice oo zn co,.slice po no qo,.slice ou un cu,.int .i64 (i:Int)] 45)):=Zr;have HNB:=Hd hnb;clear hbq hrq hlq hnb;gi_wp2_with (gi_at_builtin;refine Z7 (fun g=>w0.heap.size+5<=g) 45 _ 5 88 info_eflaw rfl (by decide) rfl _ _ _ Tryz.underlying29 rfl _ lq (l.map encG) (by rfl) (HRQ.out.below HNB.out) _ [[.int .i64 2,.slice oo zn co,.slice po no qo,.slice ou un cu,.int .i64 (i:Int)]] (by rfl) (GRd.new [.int .i64 2,.slice oo zn co,.slice po no qo,.slice ou un cu,.int .i64 (i:Int)] rfl (by simp[Value.oneCell']) Wl 45) (by have:=HLEN.out;rw[HLQ.out] at this;simp;omega) (by omega) (by have:=HML.out.size;simp;omega) ?_;intro v10 w10 hrow10 hgr10;obtain⟨o10,c10,e10⟩:=hrow10.form;subst e10;have y2:Box (w0.heap.size+3) 29 (.slice oq lq cq) w10:=(hgr10.block _ (by have:=HML.out.size;simp;omega) (fun e=>by have:=HRQ.out.2 _ e.symm;omega)).trans (HBQ.out.below HNB.out);have y0:=y2.cell;have y1:=y2.frozen;have HR10:=Hd hrow10;have HG10:=Hd hgr10;clear hrow10 hgr10 y2)
  have HP:=AgM.push (l:=l) (m:=[fx]) HML.out HNB.out (HBQ.out.below HNB.out) (by rw[HLQ.out];exact HRQ.out.below HNB.out) (by rw[HLQ.out,HFE.out];exact HR10.out) HG10.out
  obtain⟨hp1,hp2,hp3,hp4⟩:=HP;clear y0 y1 HR10 HG10;refine⟨HKO.out.2.trans hp3,⟨HKO.out.1.trans hp2,fun hw=>hw.trans ((((HB6.out.mono (by have:=HMA.out.size;omega)).trans HBk.out).trans hp4).mono (by have:=HB0.out.size;omega))⟩,l++[fx],hp1,?_⟩
  show _=_;have h1:=hpl.out;rw[List.flatMap_cons,HGN.out] at h1;rw[<-h1,<-List.append_assoc];congr 1
  rw[HFX.out];simp[plG]
end
end
section
attribute [local go_sem] Oper.semAt_some
namespace Eg
abbrev PZ:=Nat × List (List UInt8) × List Rc.PRec
def nog (o ow:List (List UInt8)) (L:List Rc.PRec) (h:List (List UInt8)):List PEg:=if Zn.has L h 1 then [] else [⟨3,o,ow,h,0⟩]
def ag (o:List (List UInt8)) (L:List Rc.PRec) (g:List Rc.PRec) (p:PZ):List PEg:=if Nm.same p.2.1 (ownerOf g) then pair o L g p.2.1 p.2.2 (p.1:Int) else []
def ofP (zp:List PZ) (o:List (List UInt8)) (L:List Rc.PRec) (g:List Rc.PRec):List PEg :=
 (innerP g).flatMap (nog o (ownerOf g) L)++zp.flatMap (ag o L g)++(if zp.any (fun p=>Nm.same p.2.1 (ownerOf g)) then [] else [⟨4,o,ownerOf g,[],0⟩])
def pz {w:World} (p:Nat × ZE w):PZ:=(p.1,p.2.origin,plE p.2.recs)
theorem nog_len (o ow:List (List UInt8)) (L:List Rc.PRec) (h:List (List UInt8)):(nog o ow L h).length<=1:=by unfold nog;split<;>simp
theorem flatMap_le {α β:Type} {F:α->List β} {m:Nat} (h:∀a,(F a).length<=m):∀l:List α,(l.flatMap F).length<=l.length*m
 | []=>by simp
 | a::l=>by
  rw[List.flatMap_cons,Zb,Ze,Nat.succ_mul];have:=h a;have:=flatMap_le h l;omega
theorem inner_len (g:List Rc.PRec):(innerP g).length<=g.length:=by
 unfold innerP;split
 ·simp
 ·refine Nat.le_trans (List.length_filter_le _ _) ?_
  unfold Rs.targets;split
  ·exact List.length_filterMap_le _ _
  ·simp
theorem pair_len (o:List (List UInt8)) (L g:List Rc.PRec) (oc:List (List UInt8)) (Lc:List Rc.PRec) (i:Int):(pair o L g oc Lc i).length<=g.length+1:=by
 have h1:=flatMap_len1 (F:=glue1 o (ownerOf g) L Lc i) (fun h=>glue1_len _ _ _ _ _ _) (innerP g)
 have h2:=inner_len g;unfold pair;rw[Zb];split
 ·rw[Zg];omega
 ·rw[List.length_singleton];omega
theorem ag_len (o:List (List UInt8)) (L g:List Rc.PRec) (p:PZ):(ag o L g p).length<=g.length+1:=by
 unfold ag;split
 ·exact pair_len _ _ _ _ _ _
 ·simp
theorem ofP_len (zp:List PZ) (o:List (List UInt8)) (L g:List Rc.PRec):(ofP zp o L g).length<=g.length+zp.length*(g.length+1)+1:=by
 have h1:=flatMap_len1 (F:=nog o (ownerOf g) L) (nog_len _ _ _) (innerP g);have h2:=inner_len g;have h3:=flatMap_le (ag_len o L g) zp;unfold ofP;rw[Zb,Zb];split
 ·rw[Zg];omega
 ·rw[List.length_singleton];omega
theorem zs_len {w:World}:∀(hs:List (HE w)) (i:Nat),(zsF hs i).length<=4*hs.length
 | [],_=>by simp[zsF]
 | h::l,i=>by
  have h1:=zs_len l (i+1);have h2:=h.len;simp only[zsF,Zb,Zf,Ze];omega
theorem zs_lt {w:World}:∀(hs:List (HE w)) (i:Nat),∀p∈zsF hs i,p.1<i+hs.length
 | [],_,p,hp=>by simp[zsF] at hp
 | h::l,i,p,hp=>by
  simp only[zsF,List.mem_append,List.mem_map] at hp;rw[Ze];rcases hp with⟨z,_,rfl⟩|hp
  ·show i<_;omega
  ·have:=zs_lt l (i+1) p hp;omega
end Eg
section
variable {w:World}
theorem OutG.setBool {B bo bb:Nat} {l:List (ElG w)} {W:World} {u v:Value} (h:OutG B bo l W) (hb:Box bb 4 u W) (hne:bb≠bo):OutG B bo l (W.setCell ⟨bb,0,none⟩ v):=by
 obtain⟨x,h1,h2⟩:=h;refine⟨x,h1.setOther (by omega) _,h2.kept fun g c t f hv hg=>(Below.heap_setCell _ _ _ _ (fun e=>?_)).trans hg⟩
 have e:g=bb:=e;obtain⟨c',f',h'⟩:=h2.typ hv;rw[e,hb] at h';cases h'
structure OgM (B:Nat) (n0 n1 n2 n3 z0 z1 s0 s1 s2 s3:Value) (l:List (ElG w)) (w0 W:World):Prop where
 nb:Blk B #[n0,n1,n2,n3] 25 W
 zb:Blk (B+1) #[z0,z1] 54 W
 cb:Blk (B+2) #[s0,s1,s2,s3] 89 W
 ob:OutG (B+5) (B+3) l W
 fb:Blk (B+4) #[.int .i64 0,z0,s0,.slice none 0 0,.int .i64 0] 45 W
 below:Below B w0 W
 size:B+5<=W.heap.size
theorem OgM.on {B:Nat} {n0 n1 n2 n3 z0 z1 s0 s1 s2 s3:Value} {l:List (ElG w)} {w0 A W:World} (h:OgM B n0 n1 n2 n3 z0 z1 s0 s1 s2 s3 l w0 A) (hb:Below A.heap.size A W):OgM B n0 n1 n2 n3 z0 z1 s0 s1 s2 s3 l w0 W :=
 ⟨h.nb.below hb,h.zb.below hb,h.cb.below hb,h.ob.below hb,h.fb.below hb,h.below.trans (hb.mono (by have:=h.size;omega)),Nat.le_trans h.size hb.size⟩
theorem OgM.put {B L:Nat} {n0 n1 n2 n3 z0 z1 s0 s1 s2 s3:Value} {l:List (ElG w)} {w0 A:World} {r:Loop} (h:OgM B n0 n1 n2 n3 z0 z1 s0 s1 s2 s3 l w0 A) (hL:B<=L) (hr:A.heap[L]? = some (.loop r)) (o:Obj):OgM B n0 n1 n2 n3 z0 z1 s0 s1 s2 s3 l w0 (A.putObj L o) :=
 ⟨h.nb.put hr o,h.zb.put hr o,h.cb.put hr o,h.ob.put hr o,h.fb.put hr o,below_put h.below hL hr (by have:=h.size;omega) o,by simpa using h.size⟩
theorem OgM.setBool {B bb:Nat} {n0 n1 n2 n3 z0 z1 s0 s1 s2 s3 u v:Value} {l:List (ElG w)} {w0 A:World} (h:OgM B n0 n1 n2 n3 z0 z1 s0 s1 s2 s3 l w0 A) (hbb:B+5<=bb) (hb:Box bb 4 u A) :
  OgM B n0 n1 n2 n3 z0 z1 s0 s1 s2 s3 l w0 (A.setCell ⟨bb,0,none⟩ v)/\Box bb 4 v (A.setCell ⟨bb,0,none⟩ v)/\keepT EgT A (A.setCell ⟨bb,0,none⟩ v)/\KeepsOthers A (A.setCell ⟨bb,0,none⟩ v)/\Below B A (A.setCell ⟨bb,0,none⟩ v) :=
 ⟨⟨h.nb.set (by omega) _,h.zb.set (by omega) _,h.cb.set (by omega) _,h.ob.setBool hb (by omega),h.fb.set (by omega) _,h.below.setCell (p:=⟨bb,0,none⟩) (by show B<=bb;omega) _,by simpa[World.setCell] using h.size⟩,
  hb.set _,keepT.set _ ⟨_,_,_,hb,.inr (.inr rfl)⟩,KeepsOthers.setCell _ _ _,(Below.refl _ _).setCell (p:=⟨bb,0,none⟩) (by show B<=bb;omega) _⟩
theorem OgM.push {B:Nat} {n0 n1 n2 n3 z0 z1 s0 s1 s2 s3:Value} {l m:List (ElG w)} {w0 W Wq w10:World} (h:OgM B n0 n1 n2 n3 z0 z1 s0 s1 s2 s3 l w0 W) (hba:Below W.heap.size W Wq) {v v10:Value} (hbx:Box (B+3) 29 v Wq) (hrow:Row (fun g=>B+5<=g) 45 5 v l.length (l.map encG).flatten Wq)
  (hrow10:Row (fun g=>B+5<=g) 45 5 v10 (l.length+m.length) (l.map encG++m.map encG).flatten w10) (hgr:Wq.grownBy w10 v.ownBlock) :
  OgM B n0 n1 n2 n3 z0 z1 s0 s1 s2 s3 (l++m) w0 (w10.setCell ⟨B+3,0,none⟩ v10)/\keepT EgT W (w10.setCell ⟨B+3,0,none⟩ v10)/\KeepsOthers W (w10.setCell ⟨B+3,0,none⟩ v10)/\Below B W (w10.setCell ⟨B+3,0,none⟩ v10)/\(∀bb u,B+5<=bb->Box bb 4 u W->Box bb 4 u (w10.setCell ⟨B+3,0,none⟩ v10)):=by
 have hq:=h.on hba;obtain⟨h1,h2,h3,h4⟩:=OutG.push (l:=l) (m:=m) (by omega) hbx hrow hrow10 hgr
 have hsz:=h.size;have hsq:=hq.size;have hblk:∀b,b<B+5->b≠B+3->(w10.setCell ⟨B+3,0,none⟩ v10).heap[b]? = Wq.heap[b]?:=fun b hb hne =>
  (Below.heap_setCell _ _ _ _ hne).trans (hgr.block b (by omega) (fun e=>by have:=hrow.2 b e.symm;omega))
 have hbB:=(hba.mono (show B<=W.heap.size by omega))
 refine⟨⟨(hblk _ (by omega) (by omega)).trans hq.nb,(hblk _ (by omega) (by omega)).trans hq.zb,(hblk _ (by omega) (by omega)).trans hq.cb,h1,(hblk _ (by omega) (by omega)).trans hq.fb,hq.below.trans (h4 B (by omega)),by have:=hgr.size;simp[World.setCell];omega⟩,
  (keepT.below hba).trans h2,(Z6 hba).trans h3,hbB.trans (h4 B (by omega)),fun bb u hbb hb=>?_⟩
 have hbq:=hb.below hba;refine ((Below.heap_setCell _ _ _ _ (show bb≠B+3 by omega)).trans (hgr.block bb hbq.lt (fun e=>?_))).trans hbq
 obtain⟨c',f',h'⟩:=hrow.typ e.symm;rw[hbq] at h';cases h'
theorem leaveD2 {F:Fence} {n:Nat} {P:Program} {fn:Func} {R:Ending->World->Prop} {a:Act} {w:World} {v:Value} {b c:Nat} (hd:a.defers=[{ target:=.collected b,args:=#[] },{ target:=.collected c,args:=#[] }]) (hb:w.heap[b]? = some (.deferred (some []))) (hc:w.heap[c]? = some (.deferred (some []))) (hne:c≠b)
  (hr:(results fn a.tmps).run P ((w.putObj b (.deferred none)).putObj c (.deferred none))=.ok v ((w.putObj b (.deferred none)).putObj c (.deferred none))) (hR:R (.returned v) ((w.putObj b (.deferred none)).putObj c (.deferred none))):bodyPostM F n P fn R .ret a w:=by
 show LeavesInM F n P fn a.tmps R a.defers .returning w;rw[hd];have hc':(w.putObj b (.deferred none)).heap[c]? = some (.deferred (some [])):=(World.putObj_heap_other hne).trans hc;exact⟨by simp,.inl ⟨_,_,rfl,run_takeDeferred hb,by simp,.inl ⟨_,_,rfl,run_takeDeferred hc',v,hr,hR⟩⟩⟩
end
end
end Go.Proofs.YtgmbefolgppmdaaGreat
