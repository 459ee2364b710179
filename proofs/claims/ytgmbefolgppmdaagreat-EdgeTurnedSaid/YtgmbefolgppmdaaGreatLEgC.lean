/- Going over a zone's cuts, over the hosts of a cut that lie under it. -/
import Derived.Test.YtgmbefolgppmdaaGreatLEgS
import Derived.Test.YtgmbefolgppmdaaGreatLAli
namespace Go.Proofs.YtgmbefolgppmdaaGreat
set_option maxRecDepth 100000
section
open Go.RowKit Go.Shelf Go.Sort
attribute [local go_sem] Oper.semAt_some
namespace Eg
def cutG (o:List (List UInt8)) (L:List Rc.PRec):List Rc.PRec->Bool
 | []=>false
 | x::_=>x.type == 2&&Zn.wher o L x.owner == 2
def cutsP (o:List (List UInt8)) (L:List Rc.PRec):List (List Rc.PRec):=(Rs.grpF (Rc.canon L).length (Rc.canon L)).filter (cutG o L)
def innerP:List Rc.PRec->List (List (List UInt8))
 | []=>[]
 | x::l=>(Rs.targets x.type (x::l)).filter fun n=>Nm.under n x.owner
end Eg
section
variable {w:World}
def cutY (k:List (List Rc.PRec)) (A:World) (v:Array Value) (k':List (List Rc.PRec)):Prop :=
 ∃(g:List Rc.PRec) (ke:List (El w)) (cs:List Value),k=g::k'/\plE ke=g/\v=#[.agg cs.toArray]/\SetC cs ke A/\DTy cs A/\ke.length<=60
theorem drop_filter {α:Type} {p:α->Bool} {l:List α} {i:Nat} (h:i<l.length):(l.drop i).filter p=if p l[i] then l[i]::(l.drop (i+1)).filter p else (l.drop (i+1)).filter p:=by
 rw[Zy h,List.filter_cons]
set_option maxHeartbeats 8000000 in
theorem cuts1_iter (T:TypeId->Prop) (hT1:¬T 54) (hT2:¬T 89) (hT3:¬T 107) (bz:Nat) (z:ZE w) :
  Iter2 Tryz.prog 50 #[.pointer (some ⟨bz,0,none⟩)] (fun A=>Blk bz (encZ z).toArray 54 A/\Below w.heap.size w A) egSt (egKp T w) (cutY (w:=w)) (Eg.cutsP z.origin (plE z.recs)) (fun k=>k=[]):=by
 intro l J W hpre hJs hY h0;obtain⟨hbk,hbw⟩:=hpre;refine callsIn_of_wp Tryz.func50 rfl trivial ?_ rfl;simp only[Tryz.ntmps50,Zo,Ze,Zg,Nat.reduceAdd,Nat.reduceSub,Zi,Zj,Zk,Zl,Zm,Zp];obtain⟨oo,co,hvo,_,_⟩:=z.ho.form;obtain⟨or,cr,hvr⟩:∃o cap,z.vr=.slice o z.recs.length cap:=by obtain⟨_,o,cap,h,_⟩:=z.hr;exact⟨o,cap,by rw[h,Zf]⟩
 have hho:=z.ho;have hhr:=z.hr;have henc:encZ z=[.slice oo z.origin.length co,.slice or z.recs.length cr]:=by unfold encZ;rw[hvo,hvr]
 rw[henc] at hbk;rw[hvo] at hho;rw[hvr] at hhr;have c1:W.cell? ⟨bz,1,none⟩=some (.slice or z.recs.length cr):=hbk.cell 1;have HO:=Hd hho;have HR:=Hd hhr;have HJS:=Hd hJs;have HY:=Hd hY;have HJ0:=Hd h0;have HBW:=Hd hbw;have HBK:=Hd hbk;have HT:=Hd (And.intro hT1 (And.intro hT2 hT3));have HNBO:=Hd z.nb;have HLEN:=Hd z.len;have HSC:=Hd (rsets3_any (.slice or z.recs.length cr) z.recs hbw (hhr.kept hbw) (by have:=z.len;omega))
 clear hho hhr hvo hvr henc hJs hY h0 hbw hbk hT1 hT2 hT3;gi_wp2_with fail
 refine (callsIn_wide.2 HSC.out).mono ?_;rintro e W1 ⟨c,v,hpc,hcl,rfl,hst,hb1⟩;have HPC:=Hd hpc;have HB1:=Hd (Z5 HBW.out hb1);have HBK1:=Hd (HBK.out.below hb1);have HJ1:=Hd (HJS.out _ _ _ HJ0.out hb1);have hgl:(grp c).length<=60:=by have h1:=grp_len c;have:=HLEN.out;omega
 obtain⟨css0,hg0,hcl0,_,_⟩:=id hst;obtain⟨ov,cv,rfl,_,_⟩:=hg0.form;rw[hcl0] at hst ⊢;obtain⟨n,hn⟩:=Zq ((grp c).length);rw[hn] at hst ⊢;have hnz:(n:Int)<=60:=by omega
 have HN:=Hd hn;have HST:=Hd hst;have HGM:Hid (∀k∈grp c,k.length<=60):=fun k hk=>by have h1:=grp_mem_bound hk;have:=HLEN.out;omega
 have HK0:Hid (Eg.cutsP z.origin (plE z.recs)=((grp c).map plE).filter (Eg.cutG z.origin (plE z.recs))):=by
  show _=_;unfold Eg.cutsP;rw[plE_grp,hpc]
 clear c1 hpc hcl hb1 hg0 hcl0 hn hst hgl HJ0 HBW HBK HSC;gi_wp2_with fail
 gi_loopw [9] (fun vi A=>∃i:Nat,i<=n/\vi=.int .i64 i/\Below w.heap.size w A/\Blk bz #[.slice oo z.origin.length co,.slice or z.recs.length cr] 54 A/\SetsTy (.slice ov n cv) (grp c) A/\J ((((grp c).map plE).drop i).filter (Eg.cutG z.origin (plE z.recs))) A) (fun vi _=>n-(intOf vi).toNat)
 case atStart=>exact⟨0,Nat.zero_le _,rfl,HB1.out,HBK1.out,HST.out,by rw[List.drop_zero,<-HK0.out];exact HJ1.out⟩
 case round =>
  clear HB1 HBK1 HST HJ1;obtain⟨i,hi,rfl,hb,hbk,hst,hj⟩:=hrel;by_cases hlt:i<n
  case neg =>
   obtain rfl:n=i:=by omega
   have hlz:¬((n:Int)<(n:Int)):=by omega
   rw[Zz (by rw[Zf,HN.out];exact Zh _)] at hj
   have HJ:=Hd hj;clear hj hst hbk hb;gi_wp2_with fail
   go_end0
   exact⟨⟨_,rfl⟩,HJ.out⟩
  case pos =>
  have hlz:(i:Int)<(n:Int):=by omega
  obtain⟨css,hg,hcl,hse,hty⟩:=id hst;have hic:i<css.length:=by rw[hcl,HN.out];exact hlt
  have hig:i<(grp c).length:=by rw[HN.out];exact hlt
  obtain⟨a,rfl,q0,q1⟩:=hg.at (by decide) i hic
  obtain⟨hsc,hdt⟩:=hse i hic hig;obtain⟨ke,hke⟩:=Zq ((grp c)[i]);rw[hke] at hsc;have hkm:ke∈grp c:=by rw[<-hke];exact List.getElem_mem _
  have hgi:i<((grp c).map plE).length:=by rw[Zf];exact hig
  have hdf:=drop_filter (p:=Eg.cutG z.origin (plE z.recs)) hgi;rw[List.getElem_map,hke] at hdf;rw[hdf] at hj;obtain⟨cs,hcs⟩:=Zq (css[i]);rw[hcs] at hsc hdt q0 q1;obtain⟨x,xs,po,no,qo,od,cd,hkx,hce,hor,hda⟩:=id hsc;obtain⟨ea,hea⟩:=Zq (a.add (i*4));rw[hea,hce] at q0;rw[hea,hce] at q1;obtain⟨tt,htt⟩:=Zq (Rs.ttl x.1.2 (plE ke));rw[htt] at hce q0 q1;have e0:wr.cell? ea=some (.slice po no qo):=q0;have e1:wr.cell? ⟨ea.block,ea.off+1,none⟩=some (.int .i64 x.1.2.type):=q1 1 (by decide) (by decide)
  have e2:wr.cell? ⟨ea.block,ea.off+2,none⟩=some (.int .u32 (tt:Int)):=q1 2 (by decide) (by decide)
  have e3:wr.cell? ⟨ea.block,ea.off+3,none⟩=some (.slice od ke.length cd):=q1 3 (by decide) (by decide)
  have hcg:Eg.cutG z.origin (plE z.recs) (plE ke)=(x.1.2.type == 2&&Zn.wher z.origin (plE z.recs) x.1.2.owner == 2):=by rw[hkx];rfl
  rw[hcg] at hj;obtain⟨ty,hty'⟩:∃t,x.1.2.type=t:=⟨_,rfl⟩;obtain⟨wh,hwh⟩:=Zq (Zn.wher z.origin (plE z.recs) x.1.2.owner);obtain⟨kl,hkl⟩:=Zq ke.length;rw[hty',hwh] at hj;rw[hty'] at e1 hce;rw[hkl] at e3 hce;have HCE:=Hd hce;have HWH:Hid (∀W',Below w.heap.size w W'->Calls Tryz.prog 52 #[.agg #[.slice oo z.origin.length co,.slice or z.recs.length cr],.slice po no qo] W' (Gives (.int .i64 wh) W')):=fun W' hW=>by
   have:=zWhere_any (.slice oo z.origin.length co) (.slice or z.recs.length cr) (.slice po no qo) z.recs z.origin x.1.2.owner hW (HR.out.kept hW) (by have:=HLEN.out;omega) (HO.out.below hW) HNBO.out (hor.below hW) x.2.2.owner
   rw[hwh] at this;exact this
  obtain⟨W2,hW2⟩:∃W2,wr.alloc (.cells #[.slice po no qo,.int .i64 ty,.int .u32 (tt:Int),.slice od kl cd] 89)=W2:=⟨_,rfl⟩;have hb2:Below wr.heap.size wr W2:=by rw[<-hW2];exact Zr
  have hbs2:Blk wr.heap.size #[.slice po no qo,.int .i64 ty,.int .u32 (tt:Int),.slice od kl cd] 89 W2:=by rw[<-hW2];exact Blk.new wr _ _
  have HB:=Hd (Z5 hb hb2);have HBK:=Hd (hbk.below hb2);have HST:=Hd (hst.keepTy (T:=fun _=>False) id id (.below hb2))
  have HSCD:=Hd (hsc.keepTy (T:=fun _=>False) hdt id (.below hb2))
  have HJ:=Hd (HJS.out _ _ _ hj hb2);have HKL:Hid (ke.length<=60):=HGM.out ke hkm;have HBS:=Hd hbs2;have z0:W2.cell? ⟨bz,0,none⟩=some (.slice oo z.origin.length co):=HBK.out.cell 0;have z1:W2.cell? ⟨bz,1,none⟩=some (.slice or z.recs.length cr):=HBK.out.cell 1;have s0:W2.cell? ⟨wr.heap.size,0,none⟩=some (.slice po no qo):=hbs2.cell 0;have s1:W2.cell? ⟨wr.heap.size,1,none⟩=some (.int .i64 ty):=hbs2.cell 1;have s2:W2.cell? ⟨wr.heap.size,2,none⟩=some (.int .u32 (tt:Int)):=hbs2.cell 2;have s3:W2.cell? ⟨wr.heap.size,3,none⟩=some (.slice od kl cd):=hbs2.cell 3;clear q0 q1 hb hbk hst hj hg hcl hse hty hsc hdt hke hkm hgi hdf hcs hkx hce hor hda htt hcg hty' hwh hkl hb2 hbs2;by_cases h2:ty=2
  case neg =>
   have t2:(ty == 2)=false:=by simpa using h2
   have HJ2:Hid (J ((((grp c).map plE).drop (i+1)).filter (Eg.cutG z.origin (plE z.recs))) W2):=by have:=HJ.out;rw[t2] at this;exact this
   clear HJ HWH;gi_wp2_with fail
   exact⟨⟨i+1,hlt,by go_num,HB.out,HBK.out,HST.out,HJ2.out⟩,by simp[intOf];omega⟩
  subst h2;by_cases h3:wh=2
  case neg =>
   have t3:(wh == 2)=false:=by simpa using h3
   have HJ2:Hid (J ((((grp c).map plE).drop (i+1)).filter (Eg.cutG z.origin (plE z.recs))) W2):=by have:=HJ.out;rw[t3] at this;exact this
   clear HJ;gi_wp2_with fail
   refine (callsIn_wide.2 (HWH.out W2 HB.out)).mono ?_;clear hW2 e0 e1 e2 e3 z0 z1 s0 s1 s2 s3;rintro e W3 ⟨rfl,b3⟩;have HB3:=Hd b3;clear b3;gi_wp2_with fail
   exact⟨⟨i+1,hlt,by go_num,Z5 HB.out HB3.out,HBK.out.below HB3.out,HST.out.keepTy (T:=fun _=>False) id id (.below HB3.out),HJS.out _ _ _ HJ2.out HB3.out⟩,by simp[intOf];omega⟩
  subst h3;gi_wp2_with fail
  refine (callsIn_wide.2 (HWH.out W2 HB.out)).mono ?_;clear hW2 e0 e1 e2 e3 z0 z1 s0 s1 s2 s3;rintro e W3 ⟨rfl,b3⟩;have HB3:=Hd b3;have s0:W3.cell? ⟨wr.heap.size,0,none⟩=some (.slice po no qo):=(HBS.out.below b3).cell 0;have s1:W3.cell? ⟨wr.heap.size,1,none⟩=some (.int .i64 2):=(HBS.out.below b3).cell 1;have s2:W3.cell? ⟨wr.heap.size,2,none⟩=some (.int .u32 (tt:Int)):=(HBS.out.below b3).cell 2;have s3:W3.cell? ⟨wr.heap.size,3,none⟩=some (.slice od kl cd):=(HBS.out.below b3).cell 3;have hsd:=HSCD.out.1.keepTy (T:=fun _=>False) HSCD.out.2 id (.below b3)
  have hj3:=HJS.out _ _ _ HJ.out b3;have HYY:Hid (YieldAt Fence.wide 0 Tryz.prog l #[.agg #[.slice po no qo,.int .i64 2,.int .u32 (tt:Int),.slice od kl cd]] W3 fun e B=>e=.returned (.bool true)/\J ((((grp c).map plE).drop (i+1)).filter (Eg.cutG z.origin (plE z.recs))) B/\egKp T w W3 B) :=
   HY.out _ _ _ W3 hj3 ⟨plE ke,ke,cs,by simp,rfl,by rw[HCE.out],hsd.1,hsd.2,HKL.out⟩
  obtain⟨fn,tmps,assign,body,hy,hR⟩:=HYY.out;clear b3 hsd hj3 HYY;gi_wp2_with fail
  refine hR.mono ?_;rintro e W4 ⟨rfl,hJ4,hk4⟩;have HJ4:=Hd hJ4;have HK4:=Hd hk4;clear hJ4 hk4 hR hy s0 s1 s2 s3;gi_wp2_with fail
  refine⟨⟨i+1,hlt,by go_num,HK4.out.2 (Z5 HB.out HB3.out),HK4.out.1 _ _ _ _ (HBK.out.below HB3.out) HT.out.1,?_,HJ4.out⟩,by simp[intOf];omega⟩
  exact (HST.out.keepTy (T:=fun _=>False) id id (.below HB3.out)).keepTy HT.out.2.1 HT.out.2.2 HK4.out.1
theorem Sl.keepTy {T:TypeId->Prop} {v:Value} {t:TypeId} {cs:List Value} {A B:World} (h:Sl v cs A) (hy:Ty v t A) (ht:¬T t) (hk:keepT T A B):Sl v cs B:=by
 obtain⟨o,cap,h1,h2,h3,h4,h5⟩:=h;refine⟨o,cap,h1,h2,h3,h4,fun j hj=>?_⟩
 obtain⟨a,ha,e⟩:=h5 j hj;obtain⟨c,f,hb⟩:=hy _ _ _ h1 a ha;exact⟨a,ha,(World.cell?_of_block (by rw[add_block,hb];exact hk _ _ _ _ hb ht)).trans e⟩
def inY (k:List (List (List UInt8))) (_:World) (v:Array Value) (k':List (List (List UInt8))):Prop :=
 ∃(n:List (List UInt8)) (u:Value),k=n::k'/\v=#[u]/\Rd u n w/\NB n
theorem targets_nb {k:List (El w)} (t:Int):∀n∈Rs.targets t (plE k),NB n:=fun n hn=>by
 unfold Rs.targets at hn;split at hn
 ·obtain⟨r,hr,he⟩:=List.mem_filterMap.1 hn
  obtain⟨x,hx,rfl⟩:=List.mem_map.1 hr;exact x.2.2.names.2 n (List.mem_of_head? he)
 ·simp at hn
set_option maxHeartbeats 8000000 in
theorem inner1_iter (T:TypeId->Prop) (hT1:¬T 89) (hT2:¬T 38) (bs:Nat) (cs:List Value) (ke:List (El w)) (hke:ke.length<=60) :
  Iter2 Tryz.prog 80 #[.pointer (some ⟨bs,0,none⟩)] (fun A=>Blk bs cs.toArray 89 A/\SetC cs ke A/\Below w.heap.size w A) egSt (egKp T w) (inY (w:=w)) (Eg.innerP (plE ke)) (fun k=>k=[]):=by
 intro l J W hpre hJs hY h0;obtain⟨hbk,hsc,hbw⟩:=hpre;refine callsIn_of_wp Tryz.func80 rfl trivial ?_ rfl;simp only[Tryz.ntmps80,Zo,Ze,Zg,Nat.reduceAdd,Nat.reduceSub,Zi,Zj,Zk,Zl,Zm,Zp];obtain⟨x,xs,po,no,qo,od,cd,hkx,rfl,hor,hda⟩:=id hsc;have hpl:Eg.innerP (plE ke)=(Rs.targets x.1.2.type (plE ke)).filter fun n=>Nm.under n x.1.2.owner:=by rw[hkx];rfl
 rw[hpl] at h0;have HNBO:=Hd x.2.2.owner;have HOR:=Hd hor;obtain⟨ow,how⟩:=Zq x.1.2.owner;rw[how] at HNBO HOR h0;obtain⟨ty,hty⟩:=Zq x.1.2.type;obtain⟨tt,htt⟩:=Zq (Rs.ttl x.1.2 (plE ke));rw[hty,htt] at hbk;rw[hty] at h0;have HTC:=Hd (targets3_any po no qo ty tt od ke.length cd ke hbw hda (by omega))
 have HTNB:=Hd (targets_nb (w:=w) (k:=ke) ty);obtain⟨ns,hns⟩:=Zq (Rs.targets ty (plE ke));rw[hns] at HTC HTNB h0;obtain⟨kl,hkl⟩:=Zq ke.length;rw[hkl] at HTC hbk hke;have c0:W.cell? ⟨bs,0,none⟩=some (.slice po no qo):=hbk.cell 0;have c1:W.cell? ⟨bs,1,none⟩=some (.int .i64 ty):=hbk.cell 1;have c2:W.cell? ⟨bs,2,none⟩=some (.int .u32 (tt:Int)):=hbk.cell 2;have c3:W.cell? ⟨bs,3,none⟩=some (.slice od kl cd):=hbk.cell 3;have HJS:=Hd hJs;have HY:=Hd hY;have HJ0:=Hd h0;have HBW:=Hd hbw;have HBK:=Hd hbk;have HT:=Hd (And.intro hT1 hT2);clear hJs hY h0 hbw hbk hsc hkx hor hda hpl how hty htt hns hkl hT1 hT2;gi_wp2_with fail
 refine (callsIn_wide.2 HTC.out).mono ?_;rintro e W1 ⟨v,us,rfl,hsl,hty,hul,hrd,hle,hb1⟩;have HB1:=Hd (Z5 HBW.out hb1);have HBK1:=Hd (HBK.out.below hb1);have HJ1:=Hd (HJS.out _ _ _ HJ0.out hb1);obtain⟨ov,cv,rfl,_,_⟩:=hsl.form;obtain⟨n,hn⟩:=Zq us.length;rw[hn] at hsl hty hle hul ⊢;have hnz:(n:Int)<=60:=by omega
 have HN:=Hd hn;have HSL:=Hd hsl;have HTY:=Hd hty;have HUL:=Hd hul;have HRD:=Hd hrd;clear c0 c1 c2 c3 hb1 hsl hty hul hrd hn HTC HJ0 HBW HBK;gi_wp2_with fail
 gi_loopw [8] (fun vi A=>∃i:Nat,i<=n/\vi=.int .i64 i/\Below w.heap.size w A/\Blk bs #[.slice po no qo,.int .i64 ty,.int .u32 (tt:Int),.slice od kl cd] 89 A/\(Sl (.slice ov n cv) us A/\Ty (.slice ov n cv) 38 A)/\J ((ns.drop i).filter fun n=>Nm.under n ow) A) (fun vi _=>n-(intOf vi).toNat)
 case atStart=>exact⟨0,Nat.zero_le _,rfl,HB1.out,HBK1.out,⟨HSL.out,HTY.out⟩,HJ1.out⟩
 case round =>
  clear HB1 HBK1 HSL HTY HJ1;obtain⟨i,hi,rfl,hb,hbk,hst,hj⟩:=hrel;by_cases hlt:i<n
  case neg =>
   obtain rfl:n=i:=by omega
   have hlz:¬((n:Int)<(n:Int)):=by omega
   rw[Zz (by rw[<-HUL.out];exact Zh _)] at hj
   have HJ:=Hd hj;clear hj hst hbk hb;gi_wp2_with fail
   go_end0
   exact⟨⟨_,rfl⟩,HJ.out⟩
  case pos =>
  have hlz:(i:Int)<(n:Int):=by omega
  have hiu:i<us.length:=by rw[HN.out];exact hlt
  have hin:i<ns.length:=by rw[<-HUL.out];exact hlt
  obtain⟨a,rfl,y0⟩:=hst.1.cells wr (Below.refl _ _) i hiu;have hru:=HRD.out i hiu hin;obtain⟨u,hu⟩:=Zq (us[i]);rw[hu] at y0 hru;obtain⟨ou,cu,rfl,_,_⟩:=hru.form;have hdf:=drop_filter (p:=fun n=>Nm.under n ow) hin
  rw[hdf] at hj;have HNB:=Hd (HTNB.out _ (List.getElem_mem hin));obtain⟨m,hm⟩:=Zq (ns[i]);rw[hm] at hj hru HNB y0;obtain⟨ml,hml⟩:=Zq m.length;rw[hml] at y0 hru;obtain⟨ub,hub⟩:=Zq (Nm.under m ow);simp only[hub] at hj;have HUC:Hid (Calls Tryz.prog 13 #[.slice ou ml cu,.slice po no qo] wr (Gives (.bool ub) wr)):=by
   have:=nUnder_any (.slice ou ml cu) (.slice po no qo) m ow wr (hru.below hb) (HOR.out.below hb) HNB.out HNBO.out
   rw[hub] at this;exact this
  have HB:=Hd hb;have HBK:=Hd hbk;have HST:=Hd hst;have HJ:=Hd hj;have HRU:=Hd hru;have z0:wr.cell? ⟨bs,0,none⟩=some (.slice po no qo):=hbk.cell 0;clear hb hbk hst hj hru hu hm hml hub hdf;cases ub with
  | false =>
   have HJ2:Hid (J ((ns.drop (i+1)).filter fun n=>Nm.under n ow) wr):=HJ.out
   gi_wp2_with fail
   refine (callsIn_wide.2 HUC.out).mono ?_;rintro e W3 ⟨rfl,b3⟩;have HB3:=Hd b3;clear b3 y0 z0 HUC;gi_wp2_with fail
   exact⟨⟨i+1,hlt,by go_num,Z5 HB.out HB3.out,HBK.out.below HB3.out,⟨HST.out.1.below HB3.out,HST.out.2.keep (T:=fun _=>False) id (.below HB3.out)⟩,HJS.out _ _ _ HJ2.out HB3.out⟩,by simp[intOf];omega⟩
  | true =>
   gi_wp2_with fail
   refine (callsIn_wide.2 HUC.out).mono ?_;rintro e W3 ⟨rfl,b3⟩;have HB3:=Hd b3;have hj3:=HJS.out _ _ _ HJ.out b3;have HYY:Hid (YieldAt Fence.wide 0 Tryz.prog l #[.slice ou ml cu] W3 fun e B=>e=.returned (.bool true)/\J ((ns.drop (i+1)).filter fun n=>Nm.under n ow) B/\egKp T w W3 B) :=
    HY.out _ _ _ W3 hj3 ⟨m,_,by simp,rfl,HRU.out,HNB.out⟩
   obtain⟨fn,tmps,assign,body,hy,hR⟩:=HYY.out;clear b3 hj3 HYY y0 z0 HUC;gi_wp2_with fail
   refine hR.mono ?_;rintro e W4 ⟨rfl,hJ4,hk4⟩;have HJ4:=Hd hJ4;have HK4:=Hd hk4;clear hJ4 hk4 hR hy;gi_wp2_with fail
   have hst3:=HST.out.1.below HB3.out;have hty3:=HST.out.2.keep (T:=fun _=>False) id (.below HB3.out)
   exact⟨⟨i+1,hlt,by go_num,HK4.out.2 (Z5 HB.out HB3.out),HK4.out.1 _ _ _ _ (HBK.out.below HB3.out) HT.out.1,⟨Sl.keepTy hst3 hty3 HT.out.2 HK4.out.1,hty3.keep HT.out.2 HK4.out.1⟩,HJ4.out⟩,by simp[intOf];omega⟩
end
end
section
open Go.RowKit
variable {P:Program}
theorem rf_outer3 {σ:Type} {g:Operand} {ps:Array Tmp} {assign body:Code} {Q:Exit->Act->World->Prop} {a:Act} {w:World}
  {gf:Nat} {lb:Array Value} (hg:a.eval g=.func (.func gf) #[] lb) (eg:∀args w,(callFunc gf args).run P w=.ok (.enter gf args) w)
  {Pre:World->Prop} {St Kp:World->World->Prop} {Y:σ->World->Array Value->σ->Prop} {k0:σ} {E:σ->Prop} (hit:Iter2 P gf lb Pre St Kp Y k0 E)
  (hSt:∀A B,St A B->KeepsOthers A B) (hKt:∀A B C,Kp A B->Kp B C->Kp A C) (hKb:∀A r o,A.heap[w.heap.size+1]? = some (.loop r)->Kp A (A.putObj (w.heap.size+1) o))
  (hps:∀k A v k',Y k A v k'->v.size=ps.size)
  (I:σ->World->Prop)
  (hIs:∀k A B,I k A->St A B->I k B)
  (hIp:∀k A r o,I k A->A.heap[w.heap.size+1]? = some (.loop r)->I k (A.putObj (w.heap.size+1) o))
  (h0:∀r,I k0 ((w.alloc (.deferred (some []))).alloc (.loop r))) (hpre:∀r,Pre ((w.alloc (.deferred (some []))).alloc (.loop r)))
  (hround:∀l k k' v W,I k W->Y k W v k' ->
   assign.wpIn (Fence.wide.inRound l) 0 P (Exit.then (rfNext2 P l (w.heap.size+1) Kp I body k' W) (fun _ _ _=>False)) { tmps:=(ps.zip v).foldl (fun t (p,v)=>t.setIfInBounds p v) a.tmps,defers:=[] } W)
  (hdone:∀k W,E k->I k W->W.heap[w.heap.size]? = some (.deferred (some []))->Q .normal { a with defers:={ target:=.collected w.heap.size,args:=#[] }::a.defers } W) :
  (Code.rangeFunc g ps assign body).wpIn Fence.wide 0 P Q a w:=by
 refine wpIn_rangeFunc ?_;intro fn hfn;obtain⟨rec,hrec⟩:∃rec:LoopState->Option Code->Loop,rec=fun st pe=>{ state:=st,pending:=pe,fn,tmps:=a.tmps,params:=ps,assign,body,defers:=w.heap.size }:=⟨_,rfl⟩
 obtain⟨W1,hW1⟩:=Zq ((w.alloc (.deferred (some []))).alloc (.loop (rec .ready none)));have hL1:W1.heap[w.heap.size+1]? = some (.loop (rec .ready none)):=by
  rw[<-hW1];have:=World.alloc_heap_new (w.alloc (.deferred (some []))) (.loop (rec .ready none));rwa [World.size_alloc] at this
 have hK1:W1.heap[w.heap.size]? = some (.deferred (some [])):=by
  rw[<-hW1];exact (Below.heap_alloc _ _ _ (by simp)).trans (World.alloc_heap_new w _)
 have hI1:I k0 W1:=by rw[<-hW1];exact h0 _
 have hP1:Pre W1:=by rw[<-hW1];exact hpre _
 refine⟨w.heap.size+1,[{ target:=.collected w.heap.size,args:=#[] }],W1,{ target:=.fn (.func gf) lb,args:=#[.func (.yield (w.heap.size+1)) #[] #[]] },W1,gf,
  #[.func (.yield (w.heap.size+1)) #[] #[]]++lb,W1,?_,?_,?_,?_,wide_le,?_⟩
 ·rw[<-hW1,hrec];exact run_enterLoop_outer _ _ _ _ _
 ·simp only[resolve,hg]
  simp[go_sem]
 ·intro f' _;trivial
 ·simp[invoke,go_sem,eg]
 ·refine (hit (w.heap.size+1)
   (fun k W=>I k W/\W.heap[w.heap.size+1]? = some (.loop (rec .ready none))/\W.heap[w.heap.size]? = some (.deferred (some [])))
   W1 hP1
   (fun k A B hs hst=>⟨hIs k A B hs.1 hst,(hSt A B hst).same _ _ hs.2.1 rfl,(hSt A B hst).same _ _ hs.2.2 rfl⟩)
   ?_ ⟨hI1,hL1,hK1⟩).mono ?_
  ·rintro k k' v W ⟨hi,hl,hk⟩ hyv
   have hlt:w.heap.size+1<W.heap.size:=(Array.getElem?_eq_some_iff.1 hl).1;have hy:=run_yield (P:=P) (args:=v) hl (by rw[hrec];exact hps k W v k' hyv)
   rw[hrec] at hy;refine⟨fn,_,assign,body,hy,roundIn_of_wpIn hfn (wpIn_mono (hround _ k k' v W hi hyv) ?_)⟩;clear hy;intro e a₁ Wa hx;cases e with
   | exit id=>exact hx.elim
   | goto t=>exact hx.elim
   | ret=>exact hx.elim
   | panic ch=>exact hx.elim
   | outgrown=>exact hx.elim
   | normal =>
   obtain⟨hkfa,hkpa,hbody⟩:=hx;replace hl:=hkfa.same _ _ hl rfl;replace hk:=hkfa.same _ _ hk rfl;replace hlt:w.heap.size+1<Wa.heap.size:=(Array.getElem?_eq_some_iff.1 hl).1;refine⟨_,run_beginRound hl (by rw[hrec]),?_⟩
   revert hkpa hkfa
   generalize W=Wb
   intro hkfa hkpa;obtain⟨W,rfl⟩:∃W,W=Wa:=⟨_,rfl⟩;have hl2:(W.putObj (w.heap.size+1) (.loop { rec .ready none with state:=.busy })).heap[w.heap.size+1]? = some (.loop { rec .ready none with state:=.busy }):=World.putObj_heap_same hlt
   have hk2:(W.putObj (w.heap.size+1) (.loop { rec .ready none with state:=.busy })).heap[w.heap.size]? = some (.deferred (some [])):=(World.putObj_heap_other (by omega)).trans hk
   have hw2:Kp W (W.putObj (w.heap.size+1) (.loop { rec .ready none with state:=.busy })):=hKb _ _ _ hl
   refine wpIn_mono (hbody _ _ rfl hl) ?_;have fin:∀(jump:Option Code) (W3:World),KeepsOthers (W.putObj (w.heap.size+1) (.loop { rec .ready none with state:=.busy })) W3 ->
     (Instr.endRound (w.heap.size+1) jump).run P W3=.ok (.bool jump.isNone) (W3.putObj (w.heap.size+1) (.loop (rec (if jump.isNone then .ready else .done) jump))) /\
     (∃r,W3.heap[w.heap.size+1]? = some (.loop r)) /\
     (W3.putObj (w.heap.size+1) (.loop (rec (if jump.isNone then .ready else .done) jump))).heap[w.heap.size+1]? = some (.loop (rec (if jump.isNone then .ready else .done) jump)) /\
     (W3.putObj (w.heap.size+1) (.loop (rec (if jump.isNone then .ready else .done) jump))).heap[w.heap.size]? = some (.deferred (some [])):=fun jump W3 hk3=>by
    have hl3:=hk3.same _ _ hl2 rfl;have hl3':∃r,W3.heap[w.heap.size+1]? = some (.loop r):=⟨_,hl3⟩;have:=run_endRound (P:=P) jump hl3
    rw[hrec] at this ⊢;exact⟨this,hl3',World.putObj_heap_same (Array.getElem?_eq_some_iff.1 hl3).1,(World.putObj_heap_other (by omega)).trans (hk3.same _ _ hk2 rfl)⟩
   rintro e a3 W3 hp;cases e with
   | normal =>
    obtain⟨hk3,hkp3,hi3⟩:=hp;obtain⟨hr,⟨_,hl3⟩,hl4,hk4⟩:=fin none W3 hk3;exact⟨_,_,hr,rfl,⟨hIp _ _ _ _ hi3 hl3,hl4,hk4⟩,hKt _ _ _ hkpa (hKt _ _ _ (hKt _ _ _ hw2 hkp3) (hKb _ _ _ hl3))⟩
   | ret=>exact hp.elim
   | exit id=>exact hp.elim
   | goto t=>exact hp.elim
   | panic ch=>exact hp.elim
   | outgrown=>exact hp.elim
  ·rintro e W2 ⟨⟨v,rfl⟩,k,hS,hi,hl,hk⟩
   exact⟨none,_,by have:=run_endLoop (P:=P) hl (by rw[hrec];simp);rw[hrec] at this;exact this,hdone k _ hS (hIp _ _ _ _ hi hl) ((World.putObj_heap_other (by omega)).trans hk)⟩
theorem rf_inner3 {σ:Type} {g:Operand} {ps:Array Tmp} {assign body:Code} {Q:Exit->Act->World->Prop} {a:Act} {w:World}
  {l0:Nat} {r0:Loop} (hl0:w.heap[l0]? = some (.loop r0)) {gf:Nat} {lb:Array Value} (hg:a.eval g=.func (.func gf) #[] lb) (eg:∀args w,(callFunc gf args).run P w=.ok (.enter gf args) w)
  {Pre:World->Prop} {St Kp:World->World->Prop} {Y:σ->World->Array Value->σ->Prop} {k0:σ} {E:σ->Prop} (hit:Iter2 P gf lb Pre St Kp Y k0 E)
  (hSt:∀A B,St A B->KeepsOthers A B) (hKt:∀A B C,Kp A B->Kp B C->Kp A C) (hKb:∀A r o,A.heap[w.heap.size]? = some (.loop r)->Kp A (A.putObj (w.heap.size) o))
  (hps:∀k A v k',Y k A v k'->v.size=ps.size)
  (I:σ->World->Prop)
  (hIs:∀k A B,I k A->St A B->I k B)
  (hIp:∀k A r o,I k A->A.heap[w.heap.size]? = some (.loop r)->I k (A.putObj (w.heap.size) o))
  (h0:∀r,I k0 (w.alloc (.loop r))) (hpre:∀r,Pre (w.alloc (.loop r)))
  (hround:∀l k k' v W,I k W->Y k W v k' ->
   assign.wpIn (Fence.wide.inRound l) 0 P (Exit.then (rfNext2 P l (w.heap.size) Kp I body k' W) (fun _ _ _=>False)) { tmps:=(ps.zip v).foldl (fun t (p,v)=>t.setIfInBounds p v) a.tmps,defers:=[] } W)
  (hdone:∀k W,E k->I k W->Q .normal a W) :
  (Code.rangeFunc g ps assign body).wpIn (Fence.wide.inRound l0) 0 P Q a w:=by
 refine wpIn_rangeFunc ?_;intro fn hfn;rw[show (Fence.wide.inRound l0).round=some l0 from rfl]
 obtain⟨rec,hrec⟩:∃rec:LoopState->Option Code->Loop,rec=fun st pe=>{ state:=st,pending:=pe,fn,tmps:=a.tmps,params:=ps,assign,body,defers:=r0.defers }:=⟨_,rfl⟩
 obtain⟨W1,hW1⟩:=Zq (w.alloc (.loop (rec .ready none)));have hL1:W1.heap[w.heap.size]? = some (.loop (rec .ready none)):=by
  rw[<-hW1];exact World.alloc_heap_new w _
 have hI1:I k0 W1:=by rw[<-hW1];exact h0 _
 have hP1:Pre W1:=by rw[<-hW1];exact hpre _
 refine⟨w.heap.size,[],W1,{ target:=.fn (.func gf) lb,args:=#[.func (.yield (w.heap.size)) #[] #[]] },W1,gf,
  #[.func (.yield (w.heap.size)) #[] #[]]++lb,W1,?_,?_,?_,?_,wide_le,?_⟩
 ·rw[<-hW1,hrec];exact run_enterLoop_inner hl0 _ _ _ _ _
 ·simp only[resolve,hg]
  simp[go_sem]
 ·intro f' _;trivial
 ·simp[invoke,go_sem,eg]
 ·refine (CallsIn.inRound l0 (hit (w.heap.size)
   (fun k W=>I k W/\W.heap[w.heap.size]? = some (.loop (rec .ready none)))
   W1 hP1
   (fun k A B hs hst=>⟨hIs k A B hs.1 hst,(hSt A B hst).same _ _ hs.2 rfl⟩)
   ?_ ⟨hI1,hL1⟩)).mono ?_
  ·rintro k k' v W ⟨hi,hl⟩ hyv
   have hlt:w.heap.size<W.heap.size:=(Array.getElem?_eq_some_iff.1 hl).1;have hy:=run_yield (P:=P) (args:=v) hl (by rw[hrec];exact hps k W v k' hyv)
   rw[hrec] at hy;refine⟨fn,_,assign,body,hy,roundIn_of_wpIn hfn (wpIn_mono (hround _ k k' v W hi hyv) ?_)⟩;clear hy;intro e a₁ Wa hx;cases e with
   | exit id=>exact hx.elim
   | goto t=>exact hx.elim
   | ret=>exact hx.elim
   | panic ch=>exact hx.elim
   | outgrown=>exact hx.elim
   | normal =>
   obtain⟨hkfa,hkpa,hbody⟩:=hx;replace hl:=hkfa.same _ _ hl rfl;replace hlt:w.heap.size<Wa.heap.size:=(Array.getElem?_eq_some_iff.1 hl).1;refine⟨_,run_beginRound hl (by rw[hrec]),?_⟩
   revert hkpa hkfa
   generalize W=Wb
   intro hkfa hkpa;obtain⟨W,rfl⟩:∃W,W=Wa:=⟨_,rfl⟩;have hl2:(W.putObj (w.heap.size) (.loop { rec .ready none with state:=.busy })).heap[w.heap.size]? = some (.loop { rec .ready none with state:=.busy }):=World.putObj_heap_same hlt
   have hw2:Kp W (W.putObj (w.heap.size) (.loop { rec .ready none with state:=.busy })):=hKb _ _ _ hl
   refine wpIn_mono (hbody _ _ rfl hl) ?_;have fin:∀(jump:Option Code) (W3:World),KeepsOthers (W.putObj (w.heap.size) (.loop { rec .ready none with state:=.busy })) W3 ->
     (Instr.endRound (w.heap.size) jump).run P W3=.ok (.bool jump.isNone) (W3.putObj (w.heap.size) (.loop (rec (if jump.isNone then .ready else .done) jump))) /\
     (∃r,W3.heap[w.heap.size]? = some (.loop r)) /\
     (W3.putObj (w.heap.size) (.loop (rec (if jump.isNone then .ready else .done) jump))).heap[w.heap.size]? = some (.loop (rec (if jump.isNone then .ready else .done) jump)):=fun jump W3 hk3=>by
    have hl3:=hk3.same _ _ hl2 rfl;have hl3':∃r,W3.heap[w.heap.size]? = some (.loop r):=⟨_,hl3⟩;have:=run_endRound (P:=P) jump hl3
    rw[hrec] at this ⊢;exact⟨this,hl3',World.putObj_heap_same (Array.getElem?_eq_some_iff.1 hl3).1⟩
   rintro e a3 W3 hp;cases e with
   | normal =>
    obtain⟨hk3,hkp3,hi3⟩:=hp;obtain⟨hr,⟨_,hl3⟩,hl4⟩:=fin none W3 hk3;exact⟨_,_,hr,rfl,⟨hIp _ _ _ _ hi3 hl3,hl4⟩,hKt _ _ _ hkpa (hKt _ _ _ (hKt _ _ _ hw2 hkp3) (hKb _ _ _ hl3))⟩
   | ret=>exact hp.elim
   | exit id=>exact hp.elim
   | goto t=>exact hp.elim
   | panic ch=>exact hp.elim
   | outgrown=>exact hp.elim
  ·rintro e W2 ⟨⟨v,rfl⟩,k,hS,hi,hl⟩
   exact⟨none,_,by have:=run_endLoop (P:=P) hl (by rw[hrec];simp);rw[hrec] at this;exact this,hdone k _ hS (hIp _ _ _ _ hi hl)⟩
end
section
open Go.RowKit Go.Shelf Go.Sort
attribute [local go_sem] Oper.semAt_some
theorem Rs.mine_run {L:List Rc.PRec} {o:List (List UInt8)} {t:Int} {x:Rc.PRec} {xs:List Rc.PRec} (h:Rs.mine L o t=x::xs):Rs.run x (x::xs)=(x::xs).length:=by
 obtain⟨h1,h2⟩:=Rs.mine_find L o t;rcases hf:(Rs.G L).find? (Rs.hasP o t) with _|g
 ·rw[hf] at h1;rw[h1] at h;cases h
 ·rw[hf] at h1
  obtain⟨y,ys,e,hr⟩:=h2 g hf;have e2:g=x::xs:=by rw[<-h,h1];rfl
  rw[e2] at e hr;cases e;exact hr
namespace Eg
def ownerOf:List Rc.PRec->List (List UInt8)
 | []=>[]
 | x::_=>x.owner
def glue1 (o ow:List (List UInt8)) (L Lc:List Rc.PRec) (i:Int) (h:List (List UInt8)):List PEg :=
 if (!(Rs.mine L h 1).isEmpty&&!(Rs.mine Lc h 1).isEmpty&&!Rs.sameDats (Rs.mine L h 1) (Rs.mine Lc h 1)) then [⟨2,o,ow,h,i⟩] else []
def pair (o:List (List UInt8)) (L:List Rc.PRec) (g:List Rc.PRec) (oc:List (List UInt8)) (Lc:List Rc.PRec) (i:Int):List PEg :=
 (if Rs.sameDats g (Rs.mine Lc oc 2) then [] else [⟨1,o,ownerOf g,[],i⟩])++(innerP g).flatMap (glue1 o (ownerOf g) L Lc i)
theorem glue1_len (o ow:List (List UInt8)) (L Lc:List Rc.PRec) (i:Int) (h:List (List UInt8)):(glue1 o ow L Lc i h).length<=1:=by unfold glue1;split<;>simp
theorem flatMap_len1 {α β:Type} {F:α->List β} (h:∀a,(F a).length<=1):∀l:List α,(l.flatMap F).length<=l.length
 | []=>by simp
 | a::l=>by rw[List.flatMap_cons,Zb,Ze];have:=h a;have:=flatMap_len1 h l;omega
end Eg
section
variable {w:World}
def SetV (c:List (El w)) (v:Value) (W:World):Prop:=∃po no qo t tt od n cd,v=.agg #[.slice po no qo,.int .i64 t,.int .u32 ((tt:Nat):Int),.slice od n cd]/\DatsRd (.slice od n cd) c W
theorem of_set {c:List (El w)} {L:List Rc.PRec} {o:List (List UInt8)} {t:Int} {v:Value} {W:World} (h:plE c=Rs.mine L o t) (hv:ofV c v W):SetV c v W:=by
 rcases c with _|⟨x,xs⟩
 ·exact⟨none,0,0,0,0,none,0,0,hv,DatsRd.nil _⟩
 ·obtain⟨vo,od,cd,rfl,h2,h3⟩:=hv
  have hr:Rs.run x.1.2 (plE (x::xs))=(x::xs).length:=by
   have:=Rs.mine_run (x:=x.1.2) (xs:=plE xs) h.symm
   have e:plE (x::xs)=x.1.2::plE xs:=rfl;rw[e,this];simp[plE]
  rw[hr,List.take_length] at h3;rw[hr];obtain⟨po,qo,rfl,_,_⟩:=h2.form;exact⟨_,_,_,_,_,_,_,_,rfl,h3⟩
def EgR (P:List PEg) (w0:World) (e:Ending) (w':World):Prop :=
 ∃(v:Value) (l:List (ElG w)),e=.returned v/\GRd 5 v (l.map encG) w'/\plG l=P/\Below w0.heap.size w0 w'
def EgT (t:TypeId):Prop:=t=29\/t=45\/t=4
def OutG (B bo:Nat) (l:List (ElG w)) (W:World):Prop:=∃v,Box bo 29 v W/\Row (fun g=>B<=g) 45 5 v l.length (l.map encG).flatten W
theorem OutG.below {B bo:Nat} {l:List (ElG w)} {A W:World} (h:OutG B bo l A) (hb:Below A.heap.size A W):OutG B bo l W:=by
 obtain⟨v,h1,h2⟩:=h;exact⟨v,h1.below hb,h2.below hb⟩
theorem OutG.put {B bo L:Nat} {l:List (ElG w)} {A:World} {r:Loop} (h:OutG B bo l A) (hr:A.heap[L]? = some (.loop r)) (o:Obj):OutG B bo l (A.putObj L o):=by
 obtain⟨v,h1,h2⟩:=h;exact⟨v,h1.put hr o,h2.put hr o⟩
theorem OutG.push {B bo:Nat} {l m:List (ElG w)} {W w10:World} {v v10:Value} (hB:bo<B) (hbx:Box bo 29 v W) (hrow:Row (fun g=>B<=g) 45 5 v l.length (l.map encG).flatten W)
  (hrow10:Row (fun g=>B<=g) 45 5 v10 (l.length+m.length) (l.map encG++m.map encG).flatten w10) (hgr:W.grownBy w10 v.ownBlock) :
  OutG B bo (l++m) (w10.setCell ⟨bo,0,none⟩ v10)/\keepT EgT W (w10.setCell ⟨bo,0,none⟩ v10)/\KeepsOthers W (w10.setCell ⟨bo,0,none⟩ v10)/\(∀B0,B0<=bo->Below B0 W (w10.setCell ⟨bo,0,none⟩ v10)):=by
 have hown:∀g,v.ownBlock=some g->B<=g:=fun g hg=>hrow.2 g hg
 have hbx10:Box bo 29 v w10:=(hgr.block _ hbx.lt (fun e=>by have:=hown _ e.symm;omega)).trans hbx
 have hrt:∀g,v.ownBlock=some g->∃c t f,W.heap[g]? = some (Obj.cells c t f)/\EgT t:=fun g hg=>by
  obtain⟨c,f,h⟩:=hrow.typ hg;exact⟨c,_,f,h,.inr (.inl rfl)⟩
 refine⟨⟨v10,hbx10.set _,?_⟩,(keepT.grown hgr hrt).trans (keepT.set _ ⟨_,_,_,hbx10,.inl rfl⟩),(KeepsOthers.of_grownBy hgr fun j o hj ho=>?_).trans (KeepsOthers.setCell _ _ _),fun B0 hB0=>?_⟩
 ·rw[Zb,List.map_append]
  exact Row.setOther hrow10 (Nat.not_le.2 hB) _
 ·obtain⟨c,t,f,h1,_⟩:=hrt j hj
  rw[h1] at ho;cases ho;rfl
 ·have h1:Below B0 W W:=Below.refl _ _
  exact (h1.grown hgr (by have:=hbx.lt;omega) (fun g hg=>by have:=hown g hg;omega)).setCell (p:=⟨bo,0,none⟩) hB0 _
theorem inner_any (a b c d:Value) (W:World):Calls Tryz.prog 53 #[.agg #[a,b,c,d]] W fun e w'=>e=.returned (.func (.func 80) #[] #[.pointer (some ⟨W.heap.size,0,none⟩)])/\W.alloc (.cells #[a,b,c,d] 89)=w':=by
 go_enter Tryz.func53,Tryz.ntmps53
 go_wp2
 go_ret
 exact⟨rfl,rfl⟩
theorem cuts_any (a b:Value) (W:World):Calls Tryz.prog 26 #[.agg #[a,b]] W fun e w'=>e=.returned (.func (.func 50) #[] #[.pointer (some ⟨W.heap.size,0,none⟩)])/\W.alloc (.cells #[a,b] 54)=w':=by
 go_enter Tryz.func26,Tryz.ntmps26
 go_wp2
 go_ret
 exact⟨rfl,rfl⟩
theorem zones_any (a b c d:Value) (W:World):Calls Tryz.prog 25 #[.agg #[a,b,c,d]] W fun e w'=>e=.returned (.func (.func 49) #[] #[.pointer (some ⟨W.heap.size,0,none⟩)])/\W.alloc (.cells #[a,b,c,d] 25)=w':=by
 go_enter Tryz.func25,Tryz.ntmps25
 go_wp2
 go_ret
 exact⟨rfl,rfl⟩
structure AgM (B:Nat) (z0 z1 s0 s1 s2 s3 d0 d1:Value) (i:Int) (l:List (ElG w)) (w0 W:World):Prop where
 zb:Blk B #[z0,z1] 54 W
 cb:Blk (B+1) #[s0,s1,s2,s3] 89 W
 db:Blk (B+2) #[d0,d1] 54 W
 ob:OutG (B+5) (B+3) l W
 fb:∃kd po no qo,Blk (B+4) #[.int .i64 kd,z0,s0,.slice po no qo,.int .i64 i] 45 W
 below:Below B w0 W
 size:B+5<=W.heap.size
theorem AgM.on {B:Nat} {z0 z1 s0 s1 s2 s3 d0 d1:Value} {i:Int} {l:List (ElG w)} {w0 A W:World} (h:AgM B z0 z1 s0 s1 s2 s3 d0 d1 i l w0 A) (hb:Below A.heap.size A W):AgM B z0 z1 s0 s1 s2 s3 d0 d1 i l w0 W:=by
 obtain⟨kd,po,no,qo,hf⟩:=h.fb;exact⟨h.zb.below hb,h.cb.below hb,h.db.below hb,h.ob.below hb,⟨kd,po,no,qo,hf.below hb⟩,h.below.trans (hb.mono (by have:=h.size;omega)),Nat.le_trans h.size hb.size⟩
theorem AgM.put {B L:Nat} {z0 z1 s0 s1 s2 s3 d0 d1:Value} {i:Int} {l:List (ElG w)} {w0 A:World} {r:Loop} (h:AgM B z0 z1 s0 s1 s2 s3 d0 d1 i l w0 A) (hL:B<=L) (hr:A.heap[L]? = some (.loop r)) (o:Obj):AgM B z0 z1 s0 s1 s2 s3 d0 d1 i l w0 (A.putObj L o):=by
 obtain⟨kd,po,no,qo,hf⟩:=h.fb;exact⟨h.zb.put hr o,h.cb.put hr o,h.db.put hr o,h.ob.put hr o,⟨kd,po,no,qo,hf.put hr o⟩,below_put h.below hL hr (by have:=h.size;omega) o,by simpa using h.size⟩
theorem AgM.setF {B:Nat} {z0 z1 s0 s1 s2 s3 d0 d1:Value} {i:Int} {l:List (ElG w)} {w0 A W:World} (h:AgM B z0 z1 s0 s1 s2 s3 d0 d1 i l w0 A) {kd:Int} {po:Option Addr} {no qo:Nat} (j:Nat) (u:Value) (e:A.setCell ⟨B+4,j,none⟩ u=W)
  (hf:Blk (B+4) #[.int .i64 kd,z0,s0,.slice po no qo,.int .i64 i] 45 W):AgM B z0 z1 s0 s1 s2 s3 d0 d1 i l w0 W/\keepT EgT A W/\KeepsOthers A W:=by
 subst e;obtain⟨v,h1,h2⟩:=h.ob;obtain⟨_,_,_,_,hf0⟩:=h.fb;exact⟨⟨h.zb.set (by omega) _,h.cb.set (by omega) _,h.db.set (by omega) _,⟨v,h1.setOther (by omega) _,Row.setOther h2 (by omega) _⟩,⟨_,_,_,_,hf⟩,h.below.setCell (p:=⟨B+4,j,none⟩) (by simp) _,by simpa[World.setCell] using h.size⟩,keepT.set _ ⟨_,_,_,hf0,.inr (.inl rfl)⟩,KeepsOthers.setCell _ _ _⟩
theorem AgM.push {B:Nat} {z0 z1 s0 s1 s2 s3 d0 d1:Value} {i:Int} {l m:List (ElG w)} {w0 W Wq w10:World} (h:AgM B z0 z1 s0 s1 s2 s3 d0 d1 i l w0 W) (hba:Below W.heap.size W Wq) {v v10:Value} (hbx:Box (B+3) 29 v Wq) (hrow:Row (fun g=>B+5<=g) 45 5 v l.length (l.map encG).flatten Wq)
  (hrow10:Row (fun g=>B+5<=g) 45 5 v10 (l.length+m.length) (l.map encG++m.map encG).flatten w10) (hgr:Wq.grownBy w10 v.ownBlock) :
  AgM B z0 z1 s0 s1 s2 s3 d0 d1 i (l++m) w0 (w10.setCell ⟨B+3,0,none⟩ v10)/\keepT EgT W (w10.setCell ⟨B+3,0,none⟩ v10)/\KeepsOthers W (w10.setCell ⟨B+3,0,none⟩ v10)/\Below B W (w10.setCell ⟨B+3,0,none⟩ v10):=by
 have hq:=h.on hba;obtain⟨h1,h2,h3,h4⟩:=OutG.push (l:=l) (m:=m) (by omega) hbx hrow hrow10 hgr
 have hsz:=h.size;have hsq:=hq.size;have hblk:∀b,b<B+5->b≠B+3->(w10.setCell ⟨B+3,0,none⟩ v10).heap[b]? = Wq.heap[b]?:=fun b hb hne =>
  (Below.heap_setCell _ _ _ _ hne).trans (hgr.block b (by omega) (fun e=>by have:=hrow.2 b e.symm;omega))
 obtain⟨kd,po,no,qo,hf⟩:=hq.fb;have hbB:=(hba.mono (show B<=W.heap.size by omega))
 exact⟨⟨(hblk _ (by omega) (by omega)).trans hq.zb,(hblk _ (by omega) (by omega)).trans hq.cb,(hblk _ (by omega) (by omega)).trans hq.db,h1,⟨kd,po,no,qo,(hblk _ (by omega) (by omega)).trans hf⟩,hq.below.trans (h4 B (by omega)),by have:=hgr.size;simp[World.setCell];omega⟩,
  (keepT.below hba).trans h2,(Z6 hba).trans h3,hbB.trans (h4 B (by omega))⟩
end
end
end Go.Proofs.YtgmbefolgppmdaaGreat
