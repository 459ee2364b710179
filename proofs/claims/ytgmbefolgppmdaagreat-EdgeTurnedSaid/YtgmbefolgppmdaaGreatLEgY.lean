/- edge.of: the walk. -/
import Derived.Test.YtgmbefolgppmdaaGreatLEgX
import Derived.Test.YtgmbefolgppmdaaGreatLReg
import Derived.Test.YtgmbefolgppmdaaGreatLAli
namespace Go.Proofs.YtgmbefolgppmdaaGreat
open Go.RowKit Go.Shelf Go.Sort
section
set_option maxRecDepth 100000
attribute [local go_sem] Oper.semAt_some
section
variable {w:World}
set_option maxHeartbeats 16000000 in
theorem of_any {w0:World} (hb0:Below w.heap.size w w0) (vh n1 n2 n3:Value) (hs:List (HE w)) (hv:GRd 6 vh (hs.map encHo) w) (hn:hs.length<=6) (z:ZE w) (cs:List Value) (ke:List (El w)) (hset:SetC cs ke w0) (hk:ke.length<=60) :
  Calls Tryz.prog 27 #[.agg #[vh,n1,n2,n3],.agg (encZ z).toArray,.agg cs.toArray] w0 (EgR (w:=w) (Eg.ofP ((Eg.zs hs).map Eg.pz) z.origin (plE z.recs) (plE ke)) w0):=by
 obtain⟨x,xs,po,no,qo,od,cd,hkx,rfl,hor,hda⟩:=id hset;have hOW:Eg.ownerOf (plE ke)=x.1.2.owner:=by rw[hkx];rfl
 have hil:(Eg.innerP (plE ke)).length<=60:=Nat.le_trans (Eg.inner_len _) (by rw[zH];exact hk)
 have hzl24:(Eg.zs hs).length<=24:=by have:=Eg.zs_len hs 0;show (Eg.zsF hs 0).length<=_;omega
 have htl:(Eg.ofP ((Eg.zs hs).map Eg.pz) z.origin (plE z.recs) (plE ke)).length<=2000:=by
  have h1:=Eg.ofP_len ((Eg.zs hs).map Eg.pz) z.origin (plE z.recs) (plE ke);rw[zH,Zf] at h1;have h2:(Eg.zs hs).length*(ke.length+1)<=24*61:=Nat.mul_le_mul hzl24 (by omega)
  omega
 obtain⟨inn,hinn⟩:=Zq (Eg.innerP (plE ke));obtain⟨own,hown⟩:=Zq (Eg.ownerOf (plE ke));rw[hinn] at hil;have HIT0:=Hd <| inner1_iter (w:=w) EgT (by unfold EgT;decide) (by unfold EgT;decide)
 have HIT1:=Hd <| fun bn=>zones1_iter (w:=w) EgT bn vh n1 n2 n3 hs hv hn
 obtain⟨oo,co,hzo,_,_⟩:=z.ho.form;obtain⟨or,cr,hzr⟩:∃o cap,z.vr=.slice o z.recs.length cap:=by obtain⟨_,o,cap,h,_⟩:=z.hr;exact⟨o,cap,by rw[h,Zf]⟩
 have hze:encZ z=[.slice oo z.origin.length co,.slice or z.recs.length cr]:=by unfold encZ;rw[hzo,hzr]
 have hzor:=z.ho;rw[hzo] at hzor;have hzrr:=z.hr;rw[hzr] at hzrr;have HZO:=Hd hzor;have HOR:Hid (Rd (.slice po no qo) own w):=by show Rd _ _ _;rw[<-hown,hOW];exact hor
 have HNBZ:=Hd z.nb;have HNBO:Hid (NB own):=by show NB _;rw[<-hown,hOW];exact x.2.2.owner
 have HHAS:Hid (∀W' vh h,Below w.heap.size w W'->Rd vh h w->NB h->Calls Tryz.prog 54 #[.agg #[.slice oo z.origin.length co,.slice or z.recs.length cr],vh,.int .i64 1] W' (Gives (.bool (Zn.has (plE z.recs) h 1)) W')):=fun W' vh h hW hv hn=>zHas_any _ _ vh z.recs h 1 hW (hzrr.kept hW) (by have:=z.len;omega) (hv.below hW) hn
 have HAG:Hid (∀W' (c:ZE w) (i:Nat),i<=1000->Below w0.heap.size w0 W'->Calls Tryz.prog 55 #[.agg #[.slice oo z.origin.length co,.slice or z.recs.length cr],.agg #[.slice po no qo,.int .i64 x.1.2.type,.int .u32 (Rs.ttl x.1.2 (plE ke):Int),.slice od ke.length cd],.agg (encZ c).toArray,.int .i64 (i:Int)] W' (EgR (w:=w) (Eg.pair z.origin (plE z.recs) (plE ke) c.origin (plE c.recs) (i:Int)) W')):=fun W' c i hi hW=>by
  have:=against_any (Z5 hb0 hW) z c i hi _ ke (hset.keep (CellsKept.below hW)) hk
  rwa [hze] at this
 have HPZ:=Hd (fun l:List (El w)=>(zH l))
 obtain⟨zn,hzn⟩:=Zq z.origin.length;obtain⟨zl,hzl⟩:=Zq z.recs.length;obtain⟨ty,hty⟩:=Zq x.1.2.type;obtain⟨tt,htt⟩:=Zq (Rs.ttl x.1.2 (plE ke));obtain⟨kl,hkl⟩:=Zq ke.length;rw[hze,hzn,hzl,hty,htt,hkl];rw[hzn,hzl] at HHAS;rw[hzn,hzl,hty,htt,hkl] at HAG;rw[hzn] at HZO;rw[hty,htt,hkl] at hset;rw[hkl] at hda hk;have HSCT:=Hd hset;have HKK:Hid (ke.length<=60):=by show _<=_;rw[hkl];exact hk
 obtain⟨G,hG⟩:=Zq (Eg.nog z.origin own (plE z.recs));have HG:=Hd hG;obtain⟨zp,hzp⟩:=Zq ((Eg.zs hs).map Eg.pz);have HZP:=Hd hzp;obtain⟨Ga,hGa⟩:=Zq (Eg.ag z.origin (plE z.recs) (plE ke));have HGA:=Hd hGa;rw[hzp] at htl ⊢;have HTL:=Hd htl;have HTOT:Hid (Eg.ofP zp z.origin (plE z.recs) (plE ke)=inn.flatMap G++zp.flatMap Ga++(if zp.any (fun p=>Nm.same p.2.1 own) then [] else [⟨4,z.origin,own,[],0⟩])):=by
  show _=_;unfold Eg.ofP;rw[hinn,hown,hG,hGa]
 have HINL:=Hd hil;have HZ24:=Hd hzl24;have HB0:=Hd hb0;obtain⟨W5,hW5⟩:∃W,(((((w0.alloc (.cells #[vh,n1,n2,n3] 25)).alloc (.cells #[.slice oo zn co,.slice or zl cr] 54)).alloc (.cells #[.slice po no qo,.int .i64 ty,.int .u32 (tt:Int),.slice od kl cd] 89)).alloc (.cells #[.slice none 0 0] 29)).alloc (.cells #[.int .i64 0,.slice oo zn co,.slice po no qo,.slice none 0 0,.int .i64 0] 45))=W:=⟨_,rfl⟩;have hF5:Blk (w0.heap.size+4) #[.int .i64 0,.slice oo zn co,.slice po no qo,.slice none 0 0,.int .i64 0] 45 W5:=by
  have h:=Blk.new ((((w0.alloc (.cells #[vh,n1,n2,n3] 25)).alloc (.cells #[.slice oo zn co,.slice or zl cr] 54)).alloc (.cells #[.slice po no qo,.int .i64 ty,.int .u32 (tt:Int),.slice od kl cd] 89)).alloc (.cells #[.slice none 0 0] 29)) #[.int .i64 0,.slice oo zn co,.slice po no qo,.slice none 0 0,.int .i64 0] 45;rw[show ((((w0.alloc (.cells #[vh,n1,n2,n3] 25)).alloc (.cells #[.slice oo zn co,.slice or zl cr] 54)).alloc (.cells #[.slice po no qo,.int .i64 ty,.int .u32 (tt:Int),.slice od kl cd] 89)).alloc (.cells #[.slice none 0 0] 29)).heap.size=w0.heap.size+4 by simp,hW5] at h;exact h
 have hM0:OgM w0.heap.size vh n1 n2 n3 (.slice oo zn co) (.slice or zl cr) (.slice po no qo) (.int .i64 ty) (.int .u32 (tt:Int)) (.slice od kl cd) ([]:List (ElG w)) w0 W5:=by
  rw[<-hW5];refine⟨((((Blk.new w0 _ _).alloc _).alloc _).alloc _).alloc _,?_,?_,⟨.slice none 0 0,?_,Row.nil _ _ _ _⟩,?_,((((Zr).alloc (by simp) _).alloc (by simp;omega) _).alloc (by simp;omega) _).alloc (by simp;omega) _,by simp⟩
  ·have h:=(((Blk.new (w0.alloc (.cells #[vh,n1,n2,n3] 25)) #[.slice oo zn co,.slice or zl cr] 54).alloc (.cells #[.slice po no qo,.int .i64 ty,.int .u32 (tt:Int),.slice od kl cd] 89)).alloc (.cells #[.slice none 0 0] 29)).alloc (.cells #[.int .i64 0,.slice oo zn co,.slice po no qo,.slice none 0 0,.int .i64 0] 45)
   rwa [show (w0.alloc (.cells #[vh,n1,n2,n3] 25)).heap.size=w0.heap.size+1 by simp] at h
  ·have h:=((Blk.new ((w0.alloc (.cells #[vh,n1,n2,n3] 25)).alloc (.cells #[.slice oo zn co,.slice or zl cr] 54)) #[.slice po no qo,.int .i64 ty,.int .u32 (tt:Int),.slice od kl cd] 89).alloc (.cells #[.slice none 0 0] 29)).alloc (.cells #[.int .i64 0,.slice oo zn co,.slice po no qo,.slice none 0 0,.int .i64 0] 45)
   rwa [show ((w0.alloc (.cells #[vh,n1,n2,n3] 25)).alloc (.cells #[.slice oo zn co,.slice or zl cr] 54)).heap.size=w0.heap.size+2 by simp] at h
  ·have h:=(Box.new (((w0.alloc (.cells #[vh,n1,n2,n3] 25)).alloc (.cells #[.slice oo zn co,.slice or zl cr] 54)).alloc (.cells #[.slice po no qo,.int .i64 ty,.int .u32 (tt:Int),.slice od kl cd] 89)) 29 (.slice none 0 0)).alloc (.cells #[.int .i64 0,.slice oo zn co,.slice po no qo,.slice none 0 0,.int .i64 0] 45)
   rwa [show (((w0.alloc (.cells #[vh,n1,n2,n3] 25)).alloc (.cells #[.slice oo zn co,.slice or zl cr] 54)).alloc (.cells #[.slice po no qo,.int .i64 ty,.int .u32 (tt:Int),.slice od kl cd] 89)).heap.size=w0.heap.size+3 by simp] at h
  ·rw[hW5];exact hF5
 have HM0:=Hd hM0;have HINN:=Hd hinn;have HOWN:=Hd hown;have HN6:=Hd hn;have HW5:=Hd hW5;have c0:W5.cell? ⟨w0.heap.size+2,0,none⟩=some (.slice po no qo):=hM0.cb.cell 0;have c1':W5.cell? ⟨w0.heap.size+2,1,none⟩=some (.int .i64 ty):=hM0.cb.cell 1;have c2:W5.cell? ⟨w0.heap.size+2,2,none⟩=some (.int .u32 (tt:Int)):=hM0.cb.cell 2;have c3:W5.cell? ⟨w0.heap.size+2,3,none⟩=some (.slice od kl cd):=hM0.cb.cell 3;clear hset hkx hor hda hOW hinn hown hzo hzr hze hzor hzrr hzn hzl hty htt hkl hil hb0 hk hv hn hzl24 htl hG hGa hzp hF5 hM0 hW5;refine (zF (n:=0)).1 ?_;refine callsIn_of_wp_marks Tryz.func27 rfl trivial ?_ rfl;simp only[Tryz.ntmps27,Zo,Ze,Zg,Nat.reduceAdd,Nat.reduceSub,Zi,Zj,Zk,Zl,Zm,Zp];gi_wp2_with fail
 rw[show w0.heap.size+1+1+1+1=w0.heap.size+4 from rfl,show w0.heap.size+1+1+1=w0.heap.size+3 from rfl,show w0.heap.size+1+1=w0.heap.size+2 from rfl,HW5.out]
 clear c0 c1' c2 c3 HW5;refine (callsIn_wide.2 (inner_any _ _ _ _ W5)).mono ?_;rintro e Ws ⟨rfl,hWs⟩;have hbs:Below W5.heap.size W5 Ws:=by rw[<-hWs];exact Zr
 have hks:Blk W5.heap.size #[.slice po no qo,.int .i64 ty,.int .u32 (tt:Int),.slice od kl cd] 89 Ws:=by rw[<-hWs];exact Blk.new W5 _ _
 have hss:Ws.heap.size=W5.heap.size+1:=by rw[<-hWs];simp
 have hMs:=HM0.out.on hbs;have hsz9:=HM0.out.size;clear hWs;gi_wp2_with fail
 refine rf_outer3 rfl (enters_of Tryz.func80 (by kernel_rfl) rfl) (HIT0.out W5.heap.size [.slice po no qo,.int .i64 ty,.int .u32 (tt:Int),.slice od kl cd] ke HKK.out)
  (fun A B h=>egSt.others h) (fun _ _ _ h k=>h.trans k) (fun A r o hr=>egKp.put (by have:=HB0.out.size;omega) (fun c t f h=>by rw[hr] at h;cases h) o)
  (fun _ _ _ _ ⟨_,_,_,h,_⟩=>by subst h;rfl)
  (fun k W=>∃l:List (ElG w),OgM w0.heap.size vh n1 n2 n3 (.slice oo zn co) (.slice or zl cr) (.slice po no qo) (.int .i64 ty) (.int .u32 (tt:Int)) (.slice od kl cd) l w0 W/\Hid (plG l++k.flatMap G=inn.flatMap G))
  (fun _ _ _ ⟨l,h,k⟩ hb=>⟨l,h.on hb,k⟩) (fun _ _ r o ⟨l,h,k⟩ hr=>⟨l,h.put (by omega) hr o,k⟩)
  (fun rr=>?start) (fun rr=>?pre) ?round ?done
 case start=>exact⟨[],(hMs.on (Zr)).on (Zr),by show _=_;rw[HINN.out];rfl⟩
 case pre =>
  have hb2:Below Ws.heap.size Ws ((Ws.alloc (.deferred (some []))).alloc (.loop rr)):=(Zr).alloc (by simp) _
  exact⟨hks.below hb2,HSCT.out.keep (CellsKept.below (Z5 hMs.below hb2)),Z5 (Z5 HB0.out hMs.below) hb2⟩
 case round =>
  rintro lp k k' v W ⟨l,hM,hpl⟩ ⟨n,u,rfl,rfl,hu,hnb⟩;obtain⟨ou,cu,rfl,_,_⟩:=hu.form;have HM:=Hd hM;have HU:=Hd hu;have HNBH:=Hd hnb;have HSL:=Hd hsz9;obtain⟨un,hun⟩:=Zq n.length;rw[hun] at HU ⊢;clear hM hu hnb hun hMs hks hbs;gi_wp2
  refine⟨KeepsOthers.refl _,egKp.refl _ _ _,fun rr o hl hr=>?_⟩
  obtain⟨A,hA⟩:=Zq (W.putObj (Ws.heap.size+1) (.loop o));have HMA:Hid (OgM w0.heap.size vh n1 n2 n3 (.slice oo zn co) (.slice or zl cr) (.slice po no qo) (.int .i64 ty) (.int .u32 (tt:Int)) (.slice od kl cd) l w0 A):=by show OgM _ _ _ _ _ _ _ _ _ _ _ _ _ _;rw[<-hA];exact HM.out.put (by omega) hr (.loop o)
  rw[hA];clear hA hr hl HM;have a0:A.cell? ⟨w0.heap.size+1,0,none⟩=some (.slice oo zn co):=HMA.out.zb.cell 0;have a1:A.cell? ⟨w0.heap.size+1,1,none⟩=some (.slice or zl cr):=HMA.out.zb.cell 1;gi_wp2_with fail
  refine (CallsIn.inRound _ (callsIn_wide.2 (HHAS.out A (.slice ou un cu) n (Z5 HB0.out HMA.out.below) HU.out HNBH.out))).mono ?_;rintro e W2 ⟨rfl,b2⟩;have HB2:=Hd b2;have HM2:=Hd (HMA.out.on b2);obtain⟨bh,hbh⟩:=Zq (Zn.has (plE z.recs) n 1);have HGN:Hid (G n=if bh then [] else [(⟨3,z.origin,own,n,0⟩:PEg)]):=by
   show _=_;rw[<-HG.out];unfold Eg.nog;rw[hbh]
  rw[hbh];clear a0 a1 b2 hbh;cases bh with
  | true =>
   gi_wp2_with fail
   exact⟨Z6 HB2.out,egKp.below HB2.out,l,HM2.out,by have:=hpl.out;rw[List.flatMap_cons,HGN.out] at this;exact this⟩
  | false =>
  have HLEN:Hid (l.length<=61):=by
   have h1:=congrArg List.length hpl.out;have h2:=Eg.flatMap_len1 (F:=G) (fun h=>by rw[<-HG.out];exact Eg.nog_len _ _ _ _) inn
   have h4:=HINL.out;have h5:(plG l).length=l.length:=by simp[plG]
   rw[Zb,h5] at h1;show _<=_;omega
  obtain⟨fx,hfx⟩:∃y:ElG w,y=⟨([.int .i64 3,.slice oo zn co,.slice po no qo,.slice ou un cu,.int .i64 0],⟨3,z.origin,own,n,0⟩),⟨_,_,_,rfl,HZO.out,HOR.out,HU.out⟩,⟨HNBZ.out,HNBO.out,HNBH.out⟩⟩:=⟨_,rfl⟩;have HFX:=Hd hfx;have HFE:Hid ([fx].map encG=[[.int .i64 3,.slice oo zn co,.slice po no qo,.slice ou un cu,.int .i64 0]]):=by show _=_;rw[hfx];rfl
  have z0:W2.cell? ⟨w0.heap.size+1,0,none⟩=some (.slice oo zn co):=HM2.out.zb.cell 0;have s0:W2.cell? ⟨w0.heap.size+2,0,none⟩=some (.slice po no qo):=HM2.out.cb.cell 0;clear hfx;obtain⟨vq,hbq,hrq⟩:=HM2.out.ob;obtain⟨oq,cq,rfl,_,_⟩:=Row.slf hrq;have c3:W2.cell? ⟨w0.heap.size+3,0,none⟩=some _:=hbq.cell;have hfz3:=hbq.frozen;obtain⟨lq,hlq⟩:=Zq l.length;have HLQ:=Hd hlq;rw[hlq] at hbq hrq c3;have HBQ:=Hd hbq;have HRQ:=Hd hrq;have hnb:Below W2.heap.size W2 (W2.alloc (.cells #[.int .i64 3,.slice oo zn co,.slice po no qo,.slice ou un cu,.int .i64 0] 45)):=Zr;have HNB:=Hd hnb;clear hnb;clear hbq hrq hlq;gi_wp2_with (gi_at_builtin;refine Z7 (fun g=>w0.heap.size+5<=g) 45 _ 5 88 info_eflaw rfl (by decide) rfl _ _ _ Tryz.underlying29 rfl _ lq (l.map encG) (by rfl) (HRQ.out.below HNB.out) _ [[.int .i64 3,.slice oo zn co,.slice po no qo,.slice ou un cu,.int .i64 0]] (by rfl) (GRd.new [.int .i64 3,.slice oo zn co,.slice po no qo,.slice ou un cu,.int .i64 0] rfl (by simp[Value.oneCell']) W2 45) (by have:=HLEN.out;rw[HLQ.out] at this;simp;omega) (by omega) (by have:=HM2.out.size;have:=HNB.out.size;simp at *;omega) ?_;intro v10 w10 hrow10 hgr10;obtain⟨o10,c10,e10⟩:=hrow10.form;subst e10;have y2:Box (w0.heap.size+3) 29 (.slice oq lq cq) w10:=(hgr10.block _ (by have:=HM2.out.size;have:=HNB.out.size;omega) (fun e=>by have:=HRQ.out.2 _ e.symm;omega)).trans (HBQ.out.below HNB.out);have y0:=y2.cell;have y1:=y2.frozen;have HR10:=Hd hrow10;have HG10:=Hd hgr10;clear hrow10 hgr10 y2)
  have HP:=OgM.push (l:=l) (m:=[fx]) HM2.out HNB.out (HBQ.out.below HNB.out) (by rw[HLQ.out];exact HRQ.out.below HNB.out) (by rw[HLQ.out,HFE.out];exact HR10.out) HG10.out
  obtain⟨hp1,hp2,hp3,hp4,hp5⟩:=HP;clear y0 y1 HR10 HG10;clear z0 s0;refine⟨(Z6 HB2.out).trans hp3,⟨(keepT.below HB2.out).trans hp2,fun hw=>hw.trans (((HB2.out.mono (by have:=HMA.out.size;omega)).trans hp4).mono (by have:=HB0.out.size;omega))⟩,l++[fx],hp1,?_⟩
  show _=_;have h1:=hpl.out;rw[List.flatMap_cons,HGN.out] at h1;rw[<-h1,<-List.append_assoc];congr 1
  rw[HFX.out];simp[plG]
 case done =>
  rintro k W rfl ⟨l,hM,hpl⟩ hKd;obtain⟨l1,hl1⟩:=Zq (plG l);have HL1:Hid (l1=inn.flatMap G):=by show _=_;have:=hpl.out;rw[List.flatMap_nil,List.append_nil] at this;rw[<-hl1,this]
  have HPL0:=Hd hl1;have HM:=Hd hM;have HKD:=Hd hKd;obtain⟨K1,hK1⟩:=Zq Ws.heap.size;rw[hK1] at HKD ⊢;have HK1B:Hid (w0.heap.size+5<=K1):=by show _<=_;omega
  have HWB:=Hd hM.size;have hba:Below W.heap.size W (W.alloc (.cells #[.bool false] 4)):=Zr;have hbb:Box W.heap.size 4 (.bool false) (W.alloc (.cells #[.bool false] 4)):=Box.new W _ _;have hMa:=hM.on hba;have m0:=hMa.nb.cell 0;have m1:=hMa.nb.cell 1;have m2:=hMa.nb.cell 2;have m3:=hMa.nb.cell 3;have HMA:=Hd hMa;have HBB:=Hd hbb;have HKA:Hid ((W.alloc (.cells #[.bool false] 4)).heap[K1]? = some (.deferred (some []))):=(Below.heap_alloc _ _ _ (by have:=(Array.getElem?_eq_some_iff.1 HKD.out).1;omega)).trans HKD.out
  have HKL:Hid (K1<W.heap.size):=(Array.getElem?_eq_some_iff.1 HKD.out).1;clear hba hbb hMa HM HKD;clear hM hpl hKd hMs hks hbs hl1 hsz9 hss hK1;gi_wp2_with fail
  clear m0 m1 m2 m3;obtain⟨Wa,hWa⟩:=Zq (W.alloc (.cells #[.bool false] 4));have hWs:Wa.heap.size=W.heap.size+1:=by rw[<-hWa];simp
  rw[hWa] at HMA HBB HKA ⊢;obtain⟨bb,hbbE⟩:=Zq W.heap.size;rw[hbbE] at HBB HKL HWB hWs ⊢;clear hWa hbbE;refine (callsIn_wide.2 (zones_any vh n1 n2 n3 Wa)).mono ?_;rintro e Wz ⟨rfl,hWz⟩;have hbz:Below Wa.heap.size Wa Wz:=by rw[<-hWz];exact Zr
  have hkz:Blk Wa.heap.size #[vh,n1,n2,n3] 25 Wz:=by rw[<-hWz];exact Blk.new Wa _ _
  have hzz:Wz.heap.size=Wa.heap.size+1:=by rw[<-hWz];simp
  have hKz:Wz.heap[K1]? = some (.deferred (some [])):=by rw[<-hWz];exact (Below.heap_alloc _ _ _ (by have:=HKL.out;omega)).trans HKA.out
  have hMz:=HMA.out.on hbz;have hBz:=HBB.out.below hbz;clear hWz HMA HBB HKA;gi_wp2_with fail
  obtain⟨I,hI⟩:∃I:Nat->World->Prop,I=(fun k U=>∃(l:List (ElG w)) (b:Bool),OgM w0.heap.size vh n1 n2 n3 (.slice oo zn co) (.slice or zl cr) (.slice po no qo) (.int .i64 ty) (.int .u32 (tt:Int)) (.slice od kl cd) l w0 U/\Box bb 4 (.bool b) U/\U.heap[K1]? = some (.deferred (some []))/\Hid (k<=zp.length/\plG l++(zp.drop k).flatMap Ga=inn.flatMap G++zp.flatMap Ga/\(b || (zp.drop k).any fun p=>Nm.same p.2.1 own)=zp.any fun p=>Nm.same p.2.1 own)):=⟨_,rfl⟩
  have hIs:∀k A B,I k A->egSt A B->I k B:=fun k A B h hb=>by
   rw[hI] at h ⊢;obtain⟨l,b,h,k1,k2,k3⟩:=h;exact⟨l,b,h.on hb,k1.below hb,(egSt.others hb).same _ _ k2 rfl,k3⟩
  have hIp:∀k A r o,I k A->A.heap[Wz.heap.size+1]? = some (.loop r)->I k (A.putObj (Wz.heap.size+1) o):=fun k A r o h hr=>by
   rw[hI] at h ⊢;obtain⟨l,b,h,k1,k2,k3⟩:=h;have hne:K1≠Wz.heap.size+1:=by have:=HKL.out;omega
   exact⟨l,b,h.put (by have:=HWB.out;omega) hr o,k1.put hr o,(World.putObj_heap_other hne).trans k2,k3⟩
  have hKb:∀A r o,A.heap[Wz.heap.size+1]? = some (.loop r)->egKp EgT w A (A.putObj (Wz.heap.size+1) o):=fun A r o hr=>egKp.put (by have:=HB0.out.size;have:=HWB.out;omega) (fun c t f h=>by rw[hr] at h;cases h) o
  have h02:∀rr,I 0 ((Wz.alloc (.deferred (some []))).alloc (.loop rr)):=fun rr=>by
   have hb2:Below Wz.heap.size Wz ((Wz.alloc (.deferred (some []))).alloc (.loop rr)):=(Zr).alloc (by simp) _
   rw[hI];exact⟨l,false,hMz.on hb2,hBz.below hb2,(egSt.others hb2).same _ _ hKz rfl,⟨Nat.zero_le _,by rw[HPL0.out,HL1.out];rfl,by simp⟩⟩
  have hWsz:Wa.heap.size=bb+1:=hWs;rw[hWsz] at hkz;have hp2:∀rr,Blk (bb+1) #[vh,n1,n2,n3] 25 ((Wz.alloc (.deferred (some []))).alloc (.loop rr))/\Below w.heap.size w ((Wz.alloc (.deferred (some []))).alloc (.loop rr)):=fun rr=>by
   have hb2:Below Wz.heap.size Wz ((Wz.alloc (.deferred (some []))).alloc (.loop rr)):=(Zr).alloc (by simp) _
   exact⟨hkz.below hb2,Z5 (Z5 HB0.out hMz.below) hb2⟩
  have hps:∀k A v k',zoneY hs k A v k'->v.size=2:=fun k A v k' h=>by
   obtain⟨_,_,h⟩:=h;rw[h];simp
  refine rf_outer3 ?hg (enters_of Tryz.func49 (by kernel_rfl) rfl) (HIT1.out (bb+1))
   ?x1 ?x2 ?x3 ?hps I ?x4 ?x5 ?x6 ?x7 ?round2 ?done2
  case x1=>exact fun A B h=>egSt.others h
  case x2=>exact fun _ _ _ h k=>h.trans k
  case x3=>exact hKb
  case x4=>exact hIs
  case x5=>exact hIp
  case x6=>exact h02
  case x7=>exact hp2
  case hps=>exact hps
  case hg=>rfl
  case done2 =>
   rintro k U hkE hII hKd2;rw[hI] at hII;obtain⟨l,b,hM,hB,hK,hpl⟩:=hII;have hkE:k=(Eg.zs hs).length:=hkE;have hzl:zp.length=(Eg.zs hs).length:=by rw[<-HZP.out,Zf]
   have hdz:zp.drop k=[]:=Zz (by omega)
   have h1:plG l=inn.flatMap G++zp.flatMap Ga:=by have:=hpl.out.2.1;rw[hdz,List.flatMap_nil,List.append_nil] at this;exact this
   have h2:b=zp.any fun p=>Nm.same p.2.1 own:=by have:=hpl.out.2.2;rw[hdz] at this;simpa using this
   have HTT:Hid (Eg.ofP zp z.origin (plE z.recs) (plE ke)=plG l++(if b then [] else [⟨4,z.origin,own,[],0⟩])):=by
    show _=_;rw[HTOT.out,<-h2,h1]
   have HLEN:Hid (l.length<=4000):=by
    have h5:(plG l).length=l.length:=by simp[plG]
    have h6:=HTL.out;rw[HTT.out,Zb,h5] at h6;show _<=_;omega
   have b0:=hB.cell;have HM:=Hd hM;have HK:=Hd hK;rw[hzz,hWsz] at hKd2;have HKD2:=Hd hKd2;have HNE2:Hid (K1≠bb+1+1):=by show _≠_;have:=HKL.out;omega
   have HKB:Hid (w0.heap.size+5<=bb+1+1):=by show _<=_;have:=HWB.out;omega
   clear hkE hzl hdz h1 h2 hM hB hK hpl hKd2 hbz hkz hKz hMz hBz hIs hIp hKb h02 hp2 hps;have HEND:Hid (∀(V:World) (v:Value) (l:List (ElG w)),OutG (w0.heap.size+5) (w0.heap.size+3) l V->Box (w0.heap.size+3) 29 v V->plG l=Eg.ofP zp z.origin (plE z.recs) (plE ke)->Below w0.heap.size w0 V->V.heap[K1]? = some (.deferred (some []))->V.heap[bb+1+1]? = some (.deferred (some []))->w0.heap.size+5<=V.heap.size ->
     EgR (w:=w) (Eg.ofP zp z.origin (plE z.recs) (plE ke)) w0 (.returned v) ((V.putObj (bb+1+1) (.deferred none)).putObj K1 (.deferred none))):=by
    intro V v l ho hb hpl hbel hk1 hk2 hsz;obtain⟨v',hb',hrow⟩:=ho;have hvv:v'=v:=by
     have h1:=hb'.cell;have h2:=hb.cell;rw[h1] at h2;exact Option.some.inj h2
    subst hvv;have hc1:=CellsKept.putD hk2 (.deferred none);have hk1':(V.putObj (bb+1+1) (.deferred none)).heap[K1]? = some (.deferred (some [])):=(World.putObj_heap_other HNE2.out).trans hk1;have hc2:=CellsKept.putD hk1' (.deferred none);refine⟨_,l,rfl,GRd.cells_kept (GRd.cells_kept (Row.grd (by rw[Zf];exact hrow) (fun c hc=>?_)) hc1) hc2,hpl,below_putD (below_putD hbel (by have:=HKB.out;omega) (by omega) _) (by have:=HK1B.out;omega) (by simp;omega) _⟩
    obtain⟨y,_,rfl⟩:=List.mem_map.1 hc;exact⟨encG_len y,encG_one y⟩
   cases b with
   | true =>
    obtain⟨v,hbx,hrow⟩:=HM.out.ob;have g0:=hbx.cell;have HOUT:=Hd (And.intro (show OutG _ _ l U from ⟨v,hbx,hrow⟩) hbx)
    clear hbx hrow;gi_wp2_with fail
    refine leaveD2 rfl HKD2.out HK.out HNE2.out (results_tmp rfl _ _ _) ?_;exact HEND.out U v l HOUT.out.1 HOUT.out.2 (by rw[HTT.out];simp) HM.out.below HK.out HKD2.out HM.out.size
   | false =>
    have g0:U.cell? ⟨w0.heap.size+4,0,none⟩=some (.int .i64 0):=HM.out.fb.cell 0;have g0f:=HM.out.fb.frozen 0
    gi_upto_region 16 with fail
    obtain⟨W9,hW9⟩:=Zq (U.setCell ⟨w0.heap.size+4,0,none⟩ (.int .i64 4));have hf9:Blk (w0.heap.size+4) #[.int .i64 4,.slice oo zn co,.slice po no qo,.slice none 0 0,.int .i64 0] 45 W9:=by
     have h:=HM.out.fb.setAt 0 (.int .i64 4);rw[hW9] at h;exact h
    obtain⟨v,hbx,hrow⟩:=HM.out.ob;have hbx9:Box (w0.heap.size+3) 29 v W9:=by rw[<-hW9];exact hbx.setOther (by omega) _
    have hrow9:Row (fun g=>w0.heap.size+5<=g) 45 5 v l.length (l.map encG).flatten W9:=by rw[<-hW9];exact Row.setOther hrow (by omega) _
    have hbel9:Below w0.heap.size w0 W9:=by rw[<-hW9];exact HM.out.below.setCell (p:=⟨w0.heap.size+4,0,none⟩) (by simp) _
    have hsz9:w0.heap.size+5<=W9.heap.size:=by rw[<-hW9];simpa[World.setCell] using HM.out.size
    have hko9:KeepsOthers U W9:=by rw[<-hW9];exact KeepsOthers.setCell _ _ _
    rw[hW9];obtain⟨oq,cq,rfl,_,_⟩:=Row.slf hrow9;obtain⟨lq,hlq⟩:=Zq l.length;have HLQ:=Hd hlq;rw[hlq] at hbx9 hrow9;have c3:W9.cell? ⟨w0.heap.size+3,0,none⟩=some _:=hbx9.cell;have hfz3:=hbx9.frozen;have HBQ:=Hd hbx9;have HRQ:=Hd hrow9;have HBE:=Hd hbel9;have HSZ9:=Hd hsz9;have HKO:=Hd hko9;have hnb:Below W9.heap.size W9 (W9.alloc (.cells #[.int .i64 4,.slice oo zn co,.slice po no qo,.slice none 0 0,.int .i64 0] 45)):=Zr;have HNB:=Hd hnb;obtain⟨fx,hfx⟩:∃y:ElG w,y=⟨([.int .i64 4,.slice oo zn co,.slice po no qo,.slice none 0 0,.int .i64 0],⟨4,z.origin,own,[],0⟩),⟨_,_,_,rfl,HZO.out,HOR.out,Rd.nil w⟩,⟨HNBZ.out,HNBO.out,NB.nil'⟩⟩:=⟨_,rfl⟩;have HFX:=Hd hfx;have HFE:Hid ([fx].map encG=[[.int .i64 4,.slice oo zn co,.slice po no qo,.slice none 0 0,.int .i64 0]]):=by show _=_;rw[hfx];rfl
    have f0:W9.cell? ⟨w0.heap.size+4,0,none⟩=some (.int .i64 4):=hf9.cell 0;have f1:W9.cell? ⟨w0.heap.size+4,1,none⟩=some (.slice oo zn co):=hf9.cell 1;have f2:W9.cell? ⟨w0.heap.size+4,2,none⟩=some (.slice po no qo):=hf9.cell 2;have f3:W9.cell? ⟨w0.heap.size+4,3,none⟩=some (.slice none 0 0):=hf9.cell 3;have f4:W9.cell? ⟨w0.heap.size+4,4,none⟩=some (.int .i64 0):=hf9.cell 4;clear hbx hrow hlq hbx9 hrow9 hbel9 hsz9 hko9 hnb hfx hW9 hf9 g0 g0f b0;gi_wp2_with (gi_at_builtin;refine Z7 (fun g=>w0.heap.size+5<=g) 45 _ 5 88 info_eflaw rfl (by decide) rfl _ _ _ Tryz.underlying29 rfl _ lq (l.map encG) (by rfl) (HRQ.out.below HNB.out) _ [[.int .i64 4,.slice oo zn co,.slice po no qo,.slice none 0 0,.int .i64 0]] (by rfl) (GRd.new [.int .i64 4,.slice oo zn co,.slice po no qo,.slice none 0 0,.int .i64 0] rfl (by simp[Value.oneCell']) W9 45) (by have:=HLEN.out;rw[HLQ.out] at this;simp;omega) (by omega) (by have:=HSZ9.out;simp;omega) ?_;intro v10 w10 hrow10 hgr10;obtain⟨o10,c10,e10⟩:=hrow10.form;subst e10;have y2:Box (w0.heap.size+3) 29 (.slice oq lq cq) w10:=(hgr10.block _ (by have:=HSZ9.out;simp;omega) (fun e=>by have:=HRQ.out.2 _ e.symm;omega)).trans (HBQ.out.below HNB.out);have y0:=y2.cell;have y1:=y2.frozen;have HR10:=Hd hrow10;have HG10:=Hd hgr10;have HB10:=Hd y2;clear hrow10 hgr10 y2)
    obtain⟨hp1,hp2,hp3,hp4⟩:=OutG.push (B:=w0.heap.size+5) (bo:=w0.heap.size+3) (l:=l) (m:=[fx]) (by omega) (HBQ.out.below HNB.out) (by rw[HLQ.out];exact HRQ.out.below HNB.out) (by rw[HLQ.out,HFE.out];exact HR10.out) HG10.out
    have hd1:=((HKO.out.trans (Z6 HNB.out)).trans hp3).same _ _ HKD2.out rfl;have hd2:=((HKO.out.trans (Z6 HNB.out)).trans hp3).same _ _ HK.out rfl;refine leaveD2 rfl hd1 hd2 HNE2.out (results_tmp rfl _ _ _) ?_;exact HEND.out _ (.slice o10 (lq+1) c10) (l++[fx]) hp1 (HB10.out.set _) (by rw[HTT.out,HFX.out];simp[plG]) ((HBE.out.trans (HNB.out.mono (by have:=HSZ9.out;omega))).trans (hp4 _ (by omega))) hd2 hd1 (Nat.le_trans (Nat.le_trans HSZ9.out HNB.out.size) (hp4 0 (Nat.zero_le _)).size)
  case round2 =>
   rintro lp k k' v V hII ⟨hlt,rfl,rfl⟩;rw[hI] at hII;obtain⟨l,b,hM,hB,hK,hpl⟩:=hII;have hpk:k<zp.length:=by rw[<-HZP.out,Zf];exact hlt
   have hgk:zp[k]=Eg.pz (Eg.zs hs)[k]:=by
    have:∀q,(Eg.zs hs).map Eg.pz=q->∀h:k<q.length,q[k]=Eg.pz (Eg.zs hs)[k]:=fun q e h=>by subst e;rw[List.getElem_map]
    exact this _ HZP.out hpk
   have hi24:(Eg.zs hs)[k].1<=1000:=by have:=Eg.zs_lt hs 0 _ (List.getElem_mem hlt);have:=HN6.out;unfold Eg.zs at *;omega
   obtain⟨y,hy⟩:=Zq (zp[k]);rw[hy] at hgk;obtain⟨⟨i,c⟩,hyc⟩:∃y,(Eg.zs hs)[k]=y:=⟨_,rfl⟩;rw[hyc] at hi24 hgk ⊢;obtain⟨ox,cx,hcx,_,_⟩:=c.ho.form;obtain⟨ow,cw,hcw⟩:∃o cap,c.vr=.slice o c.recs.length cap:=by obtain⟨_,o,cap,h,_⟩:=c.hr;exact⟨o,cap,by rw[h,Zf]⟩
   have hce:encZ c=[.slice ox c.origin.length cx,.slice ow c.recs.length cw]:=by unfold encZ;rw[hcx,hcw]
   have hcor:=c.ho;rw[hcx] at hcor;have HCN:=Hd c.nb;have HAGC:Hid (∀W',Below w0.heap.size w0 W'->Calls Tryz.prog 55 #[.agg #[.slice oo zn co,.slice or zl cr],.agg #[.slice po no qo,.int .i64 ty,.int .u32 (tt:Int),.slice od kl cd],.agg #[.slice ox c.origin.length cx,.slice ow c.recs.length cw],.int .i64 (i:Int)] W' (EgR (w:=w) (Eg.pair z.origin (plE z.recs) (plE ke) c.origin (plE c.recs) (i:Int)) W')):=fun W' hW=>by
    have:=HAG.out W' c i hi24 hW;rwa [hce] at this
   rw[hce];obtain⟨cn,hcn⟩:=Zq c.origin.length;obtain⟨cl,hcl⟩:=Zq c.recs.length;rw[hcn] at hcor;rw[hcn,hcl] at HAGC ⊢;have HCO:=Hd hcor;have HDR:Hid ((zp.drop k).flatMap Ga=Ga y++(zp.drop (k+1)).flatMap Ga/\((zp.drop k).any fun p=>Nm.same p.2.1 own)=(Nm.same y.2.1 own || (zp.drop (k+1)).any fun p=>Nm.same p.2.1 own)):=by
    show _/\_;rw[Zy hpk,hy];exact⟨rfl,rfl⟩
   obtain⟨bS,hbS⟩:=Zq (Nm.same c.origin own);have HGK:Hid (Ga y=if bS then Eg.pair z.origin (plE z.recs) (plE ke) c.origin (plE c.recs) (i:Int) else []):=by
    show _=_;rw[hgk,<-HGA.out,<-hbS,<-HOWN.out];rfl
   have HSK:Hid (Nm.same y.2.1 own=bS):=by show _=_;rw[hgk];exact hbS
   have HSM:Hid (∀W',Below w.heap.size w W'->Calls Tryz.prog 16 #[.slice ox cn cx,.slice po no qo] W' (Gives (.bool bS) W')):=fun W' hW=>by
    have:=nSame_any (.slice ox cn cx) (.slice po no qo) c.origin own W' (HCO.out.below hW) (HOR.out.below hW) HCN.out HNBO.out
    rw[hbS] at this;exact this
   have HPK:=Hd hpk;have HM:=Hd hM;have HB:=Hd hB;have HK:=Hd hK;clear hpk hgk hy hi24 hyc hcx hcw hce hcor hcn hcl hbS hM hB hK hbz hkz hKz hMz hBz HCN hIs hIp hKb h02 hp2 hps hlt;gi_wp2
   have hnc:Below V.heap.size V (V.alloc (.cells #[.slice ox cn cx,.slice ow cl cw] 54)):=Zr;refine⟨Z6 hnc,egKp.below hnc,fun rr o hl hr=>?_⟩
   have hbc:Blk V.heap.size #[.slice ox cn cx,.slice ow cl cw] 54 (V.alloc (.cells #[.slice ox cn cx,.slice ow cl cw] 54)):=Blk.new V _ _;obtain⟨A,hA⟩:=Zq ((V.alloc (.cells #[.slice ox cn cx,.slice ow cl cw] 54)).putObj (Wz.heap.size+1) (.loop o));have HMA:Hid (OgM w0.heap.size vh n1 n2 n3 (.slice oo zn co) (.slice or zl cr) (.slice po no qo) (.int .i64 ty) (.int .u32 (tt:Int)) (.slice od kl cd) l w0 A):=by show OgM _ _ _ _ _ _ _ _ _ _ _ _ _ _;rw[<-hA];exact (HM.out.on hnc).put (by have:=HWB.out;omega) hr (.loop o)
   have hBA:=by exact (HB.out.below hnc).put hr (.loop o)
   rw[hA] at hBA;have hbA:=hbc.put hr (.loop o);rw[hA] at hbA;have hKA:A.heap[K1]? = some (.deferred (some [])):=by
    rw[<-hA];exact (World.putObj_heap_other (show K1≠Wz.heap.size+1 by have:=HKL.out;omega)).trans ((egSt.others hnc).same _ _ HK.out rfl)
   have HBA:=Hd hBA;have HBC:=Hd hbA;have HKA:=Hd hKA;rw[hA];have z0:A.cell? ⟨V.heap.size,0,none⟩=some (.slice ox cn cx):=hbA.cell 0;have s0:A.cell? ⟨w0.heap.size+2,0,none⟩=some (.slice po no qo):=HMA.out.cb.cell 0;obtain⟨cb,hcb⟩:=Zq V.heap.size;have HCBN:Hid (bb<cb):=by show _<_;rw[<-hcb];exact HB.out.lt
   have HCB:Hid (cb<A.heap.size):=by show _<_;rw[<-hcb];exact hbA.lt
   rw[hcb] at z0 HBC ⊢;clear hA hr hl HM HB HK hnc hbc hBA hbA hKA hcb;gi_wp2_with fail
   refine (CallsIn.inRound _ (callsIn_wide.2 (HSM.out A (Z5 HB0.out HMA.out.below)))).mono ?_;rintro e W2 ⟨rfl,b2⟩;have HB2:=Hd b2;have HM2:=Hd (HMA.out.on b2);have HBB2:=Hd (HBA.out.below b2);have HBC2:=Hd (HBC.out.below b2);have HK2:=Hd ((egSt.others b2).same _ _ HKA.out rfl);clear z0 s0 b2 HBA HBC HKA;cases bS with
   | false =>
    gi_wp2_with fail
    rw[hI];refine⟨Z6 HB2.out,egKp.below HB2.out,l,b,HM2.out,HBB2.out,HK2.out,?_⟩;have h:=hpl.out;rw[HDR.out.1,HDR.out.2,HGK.out,HSK.out] at h;exact⟨HPK.out,h.2.1,h.2.2⟩
   | true =>
   have u0:=HBB2.out.cell;have u1:=HBB2.out.frozen
   gi_upto_region 13 with fail
   obtain⟨hm3,hb3,hk3,ho3,hw3⟩:=HM2.out.setBool (v:=.bool true) (by have:=HWB.out;omega) HBB2.out
   have hbc3:Blk cb #[.slice ox cn cx,.slice ow cl cw] 54 (W2.setCell ⟨bb,0,none⟩ (.bool true)):=HBC2.out.set (by have:=HCBN.out;omega) _
   have hK3:=(ho3.same _ _ HK2.out rfl);have hsz3:(W2.setCell ⟨bb,0,none⟩ (.bool true)).heap.size=W2.heap.size:=by simp[World.setCell]
   obtain⟨Wt,hWt⟩:=Zq (W2.setCell ⟨bb,0,none⟩ (.bool true));rw[hWt] at hm3 hb3 hk3 ho3 hw3 hbc3 hK3 hsz3 ⊢;have HMT:=Hd hm3;have HBT:=Hd hb3;have HCT:=Hd hbc3;have HKT:=Hd hK3;have HKO:=Hd (And.intro ((keepT.below HB2.out).trans hk3) (And.intro ((Z6 HB2.out).trans ho3) ((HB2.out.mono (by have:=HMA.out.size;omega)).trans hw3)))
   obtain⟨vq,hbq,hrq⟩:=hm3.ob;obtain⟨oq,cq,rfl,_,_⟩:=Row.slf hrq;obtain⟨lq,hlq⟩:=Zq l.length;have HLQ:=Hd hlq;rw[hlq] at hbq hrq;have HBQ:=Hd hbq;have HRQ:=Hd hrq;obtain⟨P1,hP1⟩:∃q,Eg.pair z.origin (plE z.recs) (plE ke) c.origin (plE c.recs) (i:Int)=q:=⟨_,rfl⟩;have HML:Hid (P1.length<=61):=by
    show _<=_;have h:=Eg.pair_len z.origin (plE z.recs) (plE ke) c.origin (plE c.recs) (i:Int);rw[hP1,zH] at h;have:=HKK.out;omega
   rw[hP1] at HAGC HGK;have HLEN:Hid (l.length<=4000):=by
    have h1:=congrArg List.length hpl.out.2.1;have h5:(plG l).length=l.length:=by simp[plG]
    have h6:=HTL.out;rw[HTOT.out,Zb,<-h1,Zb,h5] at h6;show _<=_;omega
   have HSS:Hid (∀W',Below Wt.heap.size Wt W'->W'.cell? ⟨w0.heap.size+3,0,none⟩=some (.slice oq lq cq)/\W'.cell? ⟨w0.heap.size+1,0,none⟩=some (.slice oo zn co)/\W'.cell? ⟨w0.heap.size+1,1,none⟩=some (.slice or zl cr)/\W'.cell? ⟨w0.heap.size+2,0,none⟩=some (.slice po no qo)/\W'.cell? ⟨w0.heap.size+2,1,none⟩=some (.int .i64 ty)/\W'.cell? ⟨w0.heap.size+2,2,none⟩=some (.int .u32 (tt:Int))/\W'.cell? ⟨w0.heap.size+2,3,none⟩=some (.slice od kl cd)/\W'.cell? ⟨cb,0,none⟩=some (.slice ox cn cx)/\W'.cell? ⟨cb,1,none⟩=some (.slice ow cl cw)):=fun W' hW =>
    ⟨(HBQ.out.below hW).cell,(HMT.out.zb.below hW).cell 0,(HMT.out.zb.below hW).cell 1,(HMT.out.cb.below hW).cell 0,(HMT.out.cb.below hW).cell 1,(HMT.out.cb.below hW).cell 2,(HMT.out.cb.below hW).cell 3,(HCT.out.below hW).cell 0,(HCT.out.below hW).cell 1⟩
   clear hm3 hb3 hk3 ho3 hw3 hbc3 hK3 hsz3 hWt hbq hrq hlq hP1 HM2 HBB2 HBC2 HK2 u0 u1;refine Z8 [0,1,2,3,4,5,6] (fun W'=>W'.cell? ⟨w0.heap.size+3,0,none⟩=some (.slice oq lq cq)/\W'.cell? ⟨w0.heap.size+1,0,none⟩=some (.slice oo zn co)/\W'.cell? ⟨w0.heap.size+1,1,none⟩=some (.slice or zl cr)/\W'.cell? ⟨w0.heap.size+2,0,none⟩=some (.slice po no qo)/\W'.cell? ⟨w0.heap.size+2,1,none⟩=some (.int .i64 ty)/\W'.cell? ⟨w0.heap.size+2,2,none⟩=some (.int .u32 (tt:Int))/\W'.cell? ⟨w0.heap.size+2,3,none⟩=some (.slice od kl cd)/\W'.cell? ⟨cb,0,none⟩=some (.slice ox cn cx)/\W'.cell? ⟨cb,1,none⟩=some (.slice ow cl cw)) 8 rfl (by kernel_rfl) ?_
   intro wa hwa;have HBA:Hid (Below Wt.heap.size Wt wa):=by subst hwa;exact (Below.refl _ _).drew
   have hS:=HSS.out _ HBA.out;clear hwa;refine tA 0 hS ?_;refine tA 1 hS ?_;refine tA 2 hS ?_;refine tA 3 hS ?_;refine tA 4 hS ?_;refine oneH 5 (by rfl) (by kernel_rfl) (fun K hK=>?_)
   gi_wp2_with fail
   refine (CallsIn.inRound _ (callsIn_wide.2 (HAGC.out wa (Z5 HMT.out.below HBA.out)))).mono ?_;rintro e wb ⟨v3,m,rfl,hg3,hpm,b3⟩;have HBB3:=Hd (Z5 HBA.out b3);have hS:=HSS.out _ HBB3.out;obtain⟨o3,p3,e3,_,_⟩:=hg3.form;rw[Zf] at e3;subst e3;have HG3:=Hd hg3;have HPM:=Hd hpm;clear b3 hg3 hpm;gi_wp2_with fail
   refine hK _ _ (fun _=>hS) ?_
   clear hK K;have HNE:Hid (∀b,b<w0.heap.size+5\/b=cb->(some b:Option Nat)≠(Value.slice oq lq cq).ownBlock):=fun b hb e=>by
    rcases hb with hb|rfl
    ·have:=HRQ.out.2 _ e.symm;omega
    ·obtain⟨c',f',h'⟩:=HRQ.out.typ e.symm
     rw[HCT.out] at h';cases h'
   have HLT:Hid (cb<wb.heap.size/\w0.heap.size+5<=wb.heap.size):=⟨(HCT.out.below HBB3.out).lt,Nat.le_trans HMT.out.size HBB3.out.size⟩;refine oneH 6 (by rfl) (by kernel_rfl) (fun K hK=>?_)
   gi_wp2_with (gi_at_builtin;refine Z7 (fun g=>w0.heap.size+5<=g) 45 _ 5 88 info_eflaw rfl (by decide) rfl _ _ _ Tryz.underlying29 rfl _ lq (l.map encG) (by rfl) (HRQ.out.below HBB3.out) _ (m.map encG) (by rfl) HG3.out (by have h1:=HLEN.out;have h2:=HML.out;rw[HLQ.out] at h1;rw[<-HPM.out] at h2;simp only[plG,Zf] at h2;rw[Zf];omega) (by omega) HLT.out.2 ?_;intro v10 w10 hrow10 hgr10;obtain⟨o10,c10,e10⟩:=hrow10.form;subst e10;have HR10:=Hd hrow10;have HG10:=Hd hgr10;clear hrow10 hgr10)
   have hE:∀b o',b<w0.heap.size+5\/b=cb->w10.cell? ⟨b,o',none⟩=wb.cell? ⟨b,o',none⟩:=fun b o' hb =>
    World.cell?_of_block (HG10.out.block b (by have:=HLT.out;omega) (HNE.out b hb))
   have hS':=hS;have hS:w10.cell? ⟨w0.heap.size+3,0,none⟩=some (.slice oq lq cq)/\w10.cell? ⟨w0.heap.size+1,0,none⟩=some (.slice oo zn co)/\w10.cell? ⟨w0.heap.size+1,1,none⟩=some (.slice or zl cr)/\w10.cell? ⟨w0.heap.size+2,0,none⟩=some (.slice po no qo)/\w10.cell? ⟨w0.heap.size+2,1,none⟩=some (.int .i64 ty)/\w10.cell? ⟨w0.heap.size+2,2,none⟩=some (.int .u32 (tt:Int))/\w10.cell? ⟨w0.heap.size+2,3,none⟩=some (.slice od kl cd)/\w10.cell? ⟨cb,0,none⟩=some (.slice ox cn cx)/\w10.cell? ⟨cb,1,none⟩=some (.slice ow cl cw):=by
    obtain⟨s0,s1,s2,s3,s4,s5,s6,s7,s8⟩:=hS';exact⟨(hE _ _ (.inl (by omega))).trans s0,(hE _ _ (.inl (by omega))).trans s1,(hE _ _ (.inl (by omega))).trans s2,(hE _ _ (.inl (by omega))).trans s3,(hE _ _ (.inl (by omega))).trans s4,(hE _ _ (.inl (by omega))).trans s5,(hE _ _ (.inl (by omega))).trans s6,(hE _ _ (.inr rfl)).trans s7,(hE _ _ (.inr rfl)).trans s8⟩
   clear hE hS';refine hK _ _ (fun _=>hS) ?_
   clear hK K;have y2:Box (w0.heap.size+3) 29 (.slice oq lq cq) w10:=(HG10.out.block _ (by have:=HLT.out;omega) (HNE.out _ (.inl (by omega)))).trans (HBQ.out.below HBB3.out)
   have y0:=y2.cell;have y1:=y2.frozen;refine oneH 7 (by rfl) (by kernel_rfl) (fun K hK=>?_)
   gi_wp2_with fail
   refine hK _ _ (fun h=>absurd h (by decide)) ?_
   clear hK K;refine Z9 (by kernel_rfl) ?_
   have HFE:=Hd (show m.length=(m.map encG).length from (Zf ..).symm)
   obtain⟨hp1,hp2,hp3,hp4,hp5⟩:=OgM.push (l:=l) (m:=m) HMT.out HBB3.out (HBQ.out.below HBB3.out) (by rw[HLQ.out];exact HRQ.out.below HBB3.out) (by rw[HLQ.out,HFE.out];exact HR10.out) HG10.out
   rw[<-HFE.out] at hp1 hp2 hp3 hp4 hp5;clear y0 y1 y2 HR10 HG10;gi_wp2_with fail
   rw[hI];refine⟨HKO.out.2.1.trans hp3,⟨HKO.out.1.trans hp2,fun hw=>hw.trans ((HKO.out.2.2.trans hp4).mono (by have:=HB0.out.size;omega))⟩,l++m,true,hp1,hp5 _ _ (by have:=HWB.out;omega) HBT.out,hp3.same _ _ HKT.out rfl,HPK.out,?_,?_⟩
   ·have h:=hpl.out.2.1
    rw[HDR.out.1,HGK.out] at h;rw[<-h,<-HPM.out];simp[plG]
   ·have h:=hpl.out.2.2
    rw[HDR.out.2,HSK.out] at h;rw[<-h];simp
end
end
section
namespace Eg
def zf (zp:List PZ) (p:PZ):List PEg:=(cutsP p.2.1 p.2.2).flatMap (ofP zp p.2.1 p.2.2)
def flawsP (zp:List PZ):List PEg:=zp.flatMap (zf zp)
theorem cuts_len {F:List Rc.PRec->List PEg} (hF:∀g,g≠[]->(F g).length<=50*g.length) (q:List Rc.PRec->Bool):∀cs:List (List Rc.PRec),(∀g∈cs,g≠[])->((cs.filter q).flatMap F).length<=50*cs.flatten.length
 | [],_=>by simp
 | g::cs,h=>by
  have h1:=cuts_len hF q cs (fun g hg=>h g (Zv _ hg))
  have h2:=hF g (h g (Zu ..));rw[List.filter_cons,List.flatten_cons,Zb];split
  ·rw[List.flatMap_cons,Zb];omega
  ·omega
theorem zf_len {zp:List PZ} {p:PZ} (hz:zp.length<=24) (hp:p.2.2.length<=20):(zf zp p).length<=1000:=by
 have h1:=cuts_len (F:=ofP zp p.2.1 p.2.2) (fun g hg=>by
  have h:=ofP_len zp p.2.1 p.2.2 g;have h2:zp.length*(g.length+1)<=24*(g.length+1):=Nat.mul_le_mul_right _ hz;have h3:0<g.length:=List.length_pos_iff.2 hg;omega) (cutG p.2.1 p.2.2) (Rs.grpF (Rc.canon p.2.2).length (Rc.canon p.2.2)) (fun g hg=>by
   obtain⟨x,xs,e,_⟩:=Rs.grp_found hg;rw[e];simp)
 rw[Rs.grpF_flat _ _ (Zh _)] at h1;have h2:(Rc.canon p.2.2).length<=p.2.2.length:=Rc.canon_len _;unfold zf cutsP;omega
end Eg
end
section
set_option maxRecDepth 100000
namespace Eg
open Rc in
theorem cut_found {o:List (List UInt8)} {L g:List PRec} (h:g∈cutsP o L):Rs.mine L (ownerOf g) 2=g/\(∀r∈g,r.type=2)/\g≠[]/\Zn.wher o L (ownerOf g)=2:=by
 unfold cutsP at h;obtain⟨h1,h2⟩:=List.mem_filter.1 h;obtain⟨x,xs,rfl,h3,_⟩:=Rs.grp_found h1;have h4:((x.type == 2)&&(Zn.wher o L x.owner == 2))=true:=h2;rw[Bool.and_eq_true,beq_iff_eq,beq_iff_eq] at h4;rw[h4.1] at h3;refine⟨h3,fun r hr=>?_,by simp,h4.2⟩
 rw[<-h3] at hr;exact Rs.canon_all (p:=fun r=>r.type=2) (fun _ _ h=>h) _ (fun z hz=>by
  obtain⟨_,hq⟩:=List.mem_filter.1 hz;unfold Rs.Q at hq;simp only[Bool.and_eq_true,beq_iff_eq] at hq;omega) r hr
end Eg
end
end Go.Proofs.YtgmbefolgppmdaaGreat
