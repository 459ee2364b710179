/- The document's edges: rows in order; what is asked of a cut. -/
import Derived.Test.YtgmbefolgppmdaaGreatKEgN
import Derived.Test.YtgmbefolgppmdaaGreatKEgX
import Derived.Test.YtgmbefolgppmdaaGreatKAli
import Derived.Test.YtgmbefolgppmdaaGreatKGdE
import Derived.Sort.CutIn
namespace Go.Proofs.YtgmbefolgppmdaaGreat
open Go.RowKit Go.Shelf Go.Sort
set_option maxRecDepth 100000
section
theorem Rs.datOf_mine (L:List Rc.PRec) (n:List (List UInt8)) (t:Int):Rs.datOf (Rs.mine L n t)=Rs.mine L n t:=by
 cases h:Rs.mine L n t with
 | nil=>rfl
 | cons x xs =>
  show List.take (Rs.run x (x::xs)) (x::xs)=x::xs;rw[Rs.mine_run h,List.take_length]
namespace Eg
def byR (ow:List (List UInt8)) (F:List (List UInt8)->List PEg) (r:Rc.PRec):List PEg :=
 match r.names.head? with
 | some h=>if Nm.under h ow then F h else []
 | none=>[]
theorem flat_by (ow:List (List UInt8)) (F:List (List UInt8)->List PEg):∀m:List Rc.PRec,((m.filterMap fun r=>r.names.head?).filter fun n=>Nm.under n ow).flatMap F=m.flatMap (byR ow F)
 | []=>rfl
 | r::m=>by
  have ih:=flat_by ow F m;rw[List.flatMap_cons,<-ih,List.filterMap_cons];unfold byR;cases r.names.head? with
  | none=>rfl
  | some h =>
   simp only[List.filter_cons];split<;>simp
theorem inner_by {g:List Rc.PRec} (ht:∀r∈g,r.type=2) (F:List (List UInt8)->List PEg):(innerP g).flatMap F=g.flatMap (byR (ownerOf g) F):=by
 cases g with
 | nil=>rfl
 | cons x l =>
  rw[<-flat_by];show ((Rs.targets x.type (x::l)).filter _).flatMap F=_;rw[ht x Zu];rfl
end Eg
section
variable {w:World}
theorem dts_of {v:Value} {d:List (El w)} {W:World} (h:DatsRd v d W) (hb:Below w.heap.size w W):DtsRd v (d.map fun x=>(encD x,x.1.2)) W :=
 ⟨by rw[List.map_map];exact h.grd,fun x hx=>by
  obtain⟨y,_,rfl⟩:=List.mem_map.1 hx;obtain⟨_,_,_,_,_,_,_,_,_,_,_,_,_,_,_,_,h2⟩:=y.data;exact h2.below hb⟩
theorem sameDats_any {v u:Value} {d e:List (El w)} {W:World} (hb:Below w.heap.size w W) (hv:DatsRd v d W) (hu:DatsRd u e W) (nd:d.length<=1000) :
  Calls Tryz.prog 91 #[v,u] W (Gives (.bool (Rs.sameDats (plE d) (plE e))) W):=by
 have h:=refSameDatas_any v u _ _ W (dts_of hv hb) (dts_of hu hb) (by rw[Zf];exact nd) (fun x hx=>by obtain⟨y,_,rfl⟩:=List.mem_map.1 hx;exact y.2.2) (fun x hx=>by obtain⟨y,_,rfl⟩:=List.mem_map.1 hx;exact y.2.2)
 have e1:∀d:List (El w),plD (d.map fun x=>(encD x,x.1.2))=plE d:=fun d=>by unfold plD plE;rw[List.map_map];rfl
 rw[e1,e1] at h;exact h
def EgOut (R:List PEg) (n:Nat) (v:Value) (W:World):Prop:=∃lf:List (ElG w),GRd 5 v (lf.map encG) W/\Eg.Of (plG lf) R/\lf.length<=n
theorem EgOut.below {R:List PEg} {n:Nat} {v:Value} {W W':World} (h:EgOut (w:=w) R n v W) (hb:Below W.heap.size W W'):EgOut (w:=w) R n v W':=by
 obtain⟨lf,h1,h2,h3⟩:=h;exact⟨lf,h1.below hb,h2,h3⟩
theorem EgOut.nil (W:World):EgOut (w:=w) [] 0 (.slice none 0 0) W:=⟨[],GRd.nil 5 W,Eg.Of.nil,Zh _⟩
theorem EgOut.more {R:List PEg} {n m:Nat} {v:Value} {W:World} (h:EgOut (w:=w) R n v W) (hm:n<=m):EgOut (w:=w) R m v W:=by
 obtain⟨lf,h1,h2,h3⟩:=h;exact⟨lf,h1,h2,by omega⟩
theorem putG_len (x:ElG w):∀l:List (ElG w),(putG x l).length<=l.length+1
 | []=>by simp[putG]
 | y::L=>by
  have ih:=putG_len x L;rw[putG];split
  ·simp only[Ze];omega
  ·split<;>simp
def EAddR {w:World} (R:List PEg) (n:Nat) (W:World) (e:Ending) (W':World):Prop:=∃v',e=.returned v'/\EgOut (w:=w) R n v' W'/\Below W.heap.size W W'
theorem eadd_out {R:List PEg} {n:Nat} {v:Value} {W:World} (h:EgOut (w:=w) R n v W) (hb:Below w.heap.size w W) (hn:n<=50000) (k i:Int) (vp vc vh:Value) (p c h':List (List UInt8)) (rp:Rd vp p w) (rc:Rd vc c w) (rh:Rd vh h' w) (np:NB p) (nc:NB c) (nh:NB h') :
  Calls Tryz.prog 63 #[v,.agg #[.int .i64 k,vp,vc,vh,.int .i64 i]] W (EAddR (w:=w) (R++[⟨k,p,c,h',i⟩]) (n+1) W):=by
 obtain⟨lf,h1,h2,h3⟩:=h;refine (rAddEdge_any (w:=w) v lf ⟨([.int .i64 k,vp,vc,vh,.int .i64 i],⟨k,p,c,h',i⟩),⟨_,_,_,rfl,rp,rc,rh⟩,⟨np,nc,nh⟩⟩ hb h1 (by omega)).mono ?_
 rintro e W' ⟨v',rfl,g,b⟩;refine⟨v',rfl,⟨_,g,?_,Nat.le_trans (putG_len _ _) (by omega)⟩,b⟩
 rw[plG_putG];exact h2.put _
end
end
section
attribute [local go_sem] Oper.semAt_some
section
variable {w:World}
theorem ze_form (z:ZE w):∃oo co or cr,encZ z=[.slice oo z.origin.length co,.slice or z.recs.length cr]/\Rd (.slice oo z.origin.length co) z.origin w/\RecsRd (.slice or z.recs.length cr) (z.recs.map (·.1)) w:=by
 obtain⟨oo,co,hzo,_,_⟩:=z.ho.form;obtain⟨or,cr,hzr⟩:∃o cap,z.vr=.slice o z.recs.length cap:=by obtain⟨_,o,cap,h,_⟩:=z.hr;exact⟨o,cap,by rw[h,Zf]⟩
 exact⟨oo,co,or,cr,by unfold encZ;rw[hzo,hzr],hzo ▸ z.ho,hzr ▸ z.hr⟩
set_option maxHeartbeats 16000000 in
theorem rPair_any {W0:World} (hb:Below w.heap.size w W0) (v:Value) (R:List PEg) (N:Nat) (hO:EgOut (w:=w) R N v W0) (hN:N<=40000) (z c:ZE w) (pc:Option Addr) (nc qc:Nat) (own:List (List UInt8)) (hcut:Rd (.slice pc nc qc) own w) (ncut:NB own) (g:List Rc.PRec) (how:Eg.ownerOf g=own) (hg:Rs.mine (plE z.recs) own 2=g) (hgn:∀r∈g,r.names.length=1) (hgt:∀r∈g,r.type=2) (i:Nat) :
  Calls Tryz.prog 64 #[v,.agg (encZ z).toArray,.slice pc nc qc,.agg (encZ c).toArray,.int .i64 (i:Int)] W0 (EAddR (w:=w) (R++Eg.pair z.origin (plE z.recs) g c.origin (plE c.recs) (i:Int)) (N+1+g.length) W0):=by
 obtain⟨oo,co,or,cr,hze,hzo,hzr⟩:=ze_form z;obtain⟨ox,cx,ow,cw,hce,hco,hcr⟩:=ze_form c;have HPAIR:Hid (Eg.pair z.origin (plE z.recs) g c.origin (plE c.recs) (i:Int)=(if Rs.sameDats g (Rs.mine (plE c.recs) c.origin 2) then [] else [⟨1,z.origin,own,[],(i:Int)⟩])++g.flatMap (Eg.byR own (Eg.glue1 z.origin own (plE z.recs) (plE c.recs) (i:Int)))):=by
  show _=_;unfold Eg.pair;rw[Eg.inner_by hgt,how]
 obtain⟨bs,hbs⟩:=Zq (Rs.sameDats g (Rs.mine (plE c.recs) c.origin 2));obtain⟨R1,hR1⟩:∃r,R++(if bs then [] else [(⟨1,z.origin,own,[],(i:Int)⟩:PEg)])=r:=⟨_,rfl⟩
 obtain⟨G,hG⟩:∃F,Eg.byR own (Eg.glue1 z.origin own (plE z.recs) (plE c.recs) (i:Int))=F:=⟨_,rfl⟩;rw[HPAIR.out,hze,hce,hbs,hG,<-List.append_assoc,hR1];have HBS:=Hd hbs;have HR1:=Hd hR1;have HG1:=Hd hG;obtain⟨zn,hzn⟩:=Zq z.origin.length;obtain⟨zl,hzl⟩:=Zq z.recs.length;obtain⟨cn,hcn⟩:=Zq c.origin.length;obtain⟨cl,hcl⟩:=Zq c.recs.length;rw[hzn] at hzo;rw[hzl] at hzr;rw[hcn] at hco;rw[hcl] at hcr;rw[hzn,hzl,hcn,hcl];have zl60:z.recs.length<=1000:=by have:=z.len;omega
 have cl60:c.recs.length<=1000:=by have:=c.len;omega
 obtain⟨W1,hW1⟩:=Zq ((W0.alloc (.cells #[.slice oo zn co,.slice or zl cr] 66)).alloc (.cells #[.slice ox cn cx,.slice ow cl cw] 66));have HB1:Hid (Below W0.heap.size W0 W1):=by show Below _ _ _;rw[<-hW1];exact (Zr).alloc (by simp) _
 have hk0:Blk W0.heap.size #[.slice oo zn co,.slice or zl cr] 66 W1:=by rw[<-hW1];exact (Blk.new W0 _ _).alloc _
 have hk1:Blk (W0.heap.size+1) #[.slice ox cn cx,.slice ow cl cw] 66 W1:=by
  rw[<-hW1];have:=Blk.new (W0.alloc (.cells #[.slice oo zn co,.slice or zl cr] 66)) #[.slice ox cn cx,.slice ow cl cw] 66
  rwa [World.size_alloc] at this
 have HCZ:Hid (∀W',Below W1.heap.size W1 W'->W'.cell? ⟨W0.heap.size,0,none⟩=some (.slice oo zn co)/\W'.cell? ⟨W0.heap.size,1,none⟩=some (.slice or zl cr)/\W'.cell? ⟨W0.heap.size+1,0,none⟩=some (.slice ox cn cx)/\W'.cell? ⟨W0.heap.size+1,1,none⟩=some (.slice ow cl cw)):=fun W' hW=>⟨(hk0.below hW).cell 0,(hk0.below hW).cell 1,(hk1.below hW).cell 0,(hk1.below hW).cell 1⟩
 have hw1:∀{W'},Below W1.heap.size W1 W'->Below w.heap.size w W':=fun hW=>Z5 (Z5 hb HB1.out) hW
 have HWW:Hid (∀W',Below W1.heap.size W1 W'->Below w.heap.size w W'):=fun _ hW=>hw1 hW
 have HD1:Hid (∀W',Below W1.heap.size W1 W'->Calls Tryz.prog 60 #[.agg #[.slice oo zn co,.slice or zl cr],.slice pc nc qc,.int .i64 2] W' (RDatR z.recs own 2 W')):=fun W' hW=>rDatas_any oo zn co _ _ z.recs own 2 (hw1 hW) (hzr.kept (hw1 hW)) zl60 (hcut.below (hw1 hW)) ncut
 have HD2:Hid (∀W',Below W1.heap.size W1 W'->Calls Tryz.prog 60 #[.agg #[.slice ox cn cx,.slice ow cl cw],.slice ox cn cx,.int .i64 2] W' (RDatR c.recs c.origin 2 W')):=fun W' hW=>rDatas_any ox cn cx _ _ c.recs c.origin 2 (hw1 hW) (hcr.kept (hw1 hW)) cl60 (hco.below (hw1 hW)) c.nb
 have HDH:Hid (∀W' (vh:Value) (h:List (List UInt8)),Below W1.heap.size W1 W'->Rd vh h w->NB h->Calls Tryz.prog 60 #[.agg #[.slice oo zn co,.slice or zl cr],vh,.int .i64 1] W' (RDatR z.recs h 1 W')):=fun W' vh h hW hr nb=>rDatas_any oo zn co _ _ z.recs h 1 (hw1 hW) (hzr.kept (hw1 hW)) zl60 (hr.below (hw1 hW)) nb
 have HDC:Hid (∀W' (vh:Value) (h:List (List UInt8)),Below W1.heap.size W1 W'->Rd vh h w->NB h->Calls Tryz.prog 60 #[.agg #[.slice ox cn cx,.slice ow cl cw],vh,.int .i64 1] W' (RDatR c.recs h 1 W')):=fun W' vh h hW hr nb=>rDatas_any ox cn cx _ _ c.recs h 1 (hw1 hW) (hcr.kept (hw1 hW)) cl60 (hr.below (hw1 hW)) nb
 have HCUT:=Hd hcut;have NCUT:=Hd ncut;have HZO:=Hd hzo;have HNZ:=Hd z.nb;have HG:=Hd hg;have HGN:=Hd hgn;have HO1:=Hd (hO.below HB1.out);have HGF:Hid (g.length<=1000):=by
  show _<=_;rw[<-hg];have h1:(Rs.mine (plE z.recs) own 2).length<=(plE z.recs).length:=by
   unfold Rs.mine;exact Nat.le_trans (Rc.canon_len _) (List.length_filter_le _ _)
  rw[zH] at h1;omega
 obtain⟨z0,z1,z2,z3⟩:=HCZ.out W1 (Below.refl _ _);clear hcut ncut hzo hzr hco hcr hze hce hzn hzl hcn hcl how hg hgn hgt hO hk0 hk1 hb hw1 HPAIR hbs hR1 hG;refine (zF (n:=0)).1 ?_;refine callsIn_of_wp Tryz.func64 rfl trivial ?_ rfl;simp only[Tryz.ntmps64,Zo,Ze,Zg,Nat.reduceAdd,Nat.reduceSub,Zi,Zj,Zk,Zl,Zm,Zp];gi_wp2_with fail
 clear hW1;refine (callsIn_wide.2 (HD1.out W1 (Below.refl _ _))).mono ?_;rintro e9 W2 ⟨od,cd,d,rfl,hd,hdp,hdl,b2⟩;rw[Rs.datOf_mine,HG.out] at hdp;obtain⟨dl,hdl'⟩:∃n,d.length=n:=⟨_,rfl⟩;have hgd:g.length=dl:=by rw[<-hdp,zH,hdl']
 rw[hdl'] at hd hdl ⊢;have HD:=Hd hd;have HDP:=Hd hdp;have HDL:=Hd hdl';have HB2:=Hd b2;have HO2:=Hd (HO1.out.below b2);have HGD:=Hd hgd;have dz:(dl:Int)<=1000:=by omega
 clear hd hdp hdl' b2 z0 z1 z2 z3 hgd HO1;obtain⟨z0,z1,z2,z3⟩:=HCZ.out W2 HB2.out;gi_wp2_with fail
 refine (callsIn_wide.2 (HD2.out W2 HB2.out)).mono ?_;rintro e9 W3 ⟨ok,ck,dk,rfl,hdk,hdkp,hdkl,b3⟩;rw[Rs.datOf_mine] at hdkp;have HB3:=Hd (Z5 HB2.out b3);have HO3:=Hd (HO2.out.below b3);have hsd:=sameDats_any (HWW.out W3 HB3.out) (HD.out.below b3) hdk (by rw[HDL.out];omega)
 rw[HDP.out,hdkp] at hsd;rw[HBS.out] at hsd;have HSD:=Hd hsd;have HD3:=Hd (HD.out.below b3);clear hdk hdkp b3 z0 z1 z2 z3 hsd HO2;gi_wp2_with fail
 refine (callsIn_wide.2 HSD.out).mono ?_;rintro e9 W4 ⟨rfl,b4⟩;have HB4:=Hd (Z5 HB3.out b4);have HO4:=Hd (HO3.out.below b4);have HD4:=Hd (HD3.out.below b4);clear b4 HO3 HD3 HD HSD;obtain⟨z0,z1,z2,z3⟩:=HCZ.out W4 HB4.out
 gi_upto_if 25 with fail
 gi_cut [0] from 79 (fun v0 W=>EgOut (w:=w) (R++(if bs then [] else [⟨1,z.origin,own,[],(i:Int)⟩])) (N+1) v0 W/\Below W4.heap.size W4 W)
 case first =>
  cases bs with
  | true =>
   gi_wp2_with fail
   gi_meet
   case rel=>exact⟨by simpa using HO4.out.more (m:=N+1) (by omega),Below.refl _ _⟩
  | false =>
   have HAD:=Hd (eadd_out HO4.out (HWW.out _ HB4.out) (by omega) 1 (i:Int) (.slice oo zn co) (.slice pc nc qc) (.slice none 0 0) z.origin own [] HZO.out HCUT.out (Rd.nil w) HNZ.out NCUT.out NB.nil')
   gi_wp2_with fail
   refine (callsIn_wide.2 HAD.out).mono ?_;rintro e9 W5 ⟨v',rfl,hO,b3⟩;have HOX:=Hd hO;have HBX:=Hd b3;clear hO b3;gi_wp2_with fail
   gi_meet
   case rel=>exact⟨HOX.out,HBX.out⟩
 case rest =>
 obtain⟨hO,hb⟩:=hcut;obtain⟨W5,rfl⟩:∃W,W=wc:=⟨_,rfl⟩;rw[HR1.out] at hO;have HO5:=Hd hO;have HB5:=Hd (Z5 HB4.out hb);have HD5:=Hd (HD4.out.below hb);clear hO hb z0 z1 z2 z3 HO4 HD4;gi_wp2_with fail
 gi_loopw [0,12] (fun u0 v12 W=>∃(k:Nat) (v0:Value),v0=u0/\v12=.int .i64 k/\k<=dl/\Hid (EgOut (w:=w) (R1++(g.take k).flatMap G) (N+1+k) v0 W)/\Hid (Below W5.heap.size W5 W)) (fun _ v12 _=>dl-(intOf v12).toNat)
 case atStart=>exact⟨0,_,rfl,rfl,Nat.zero_le _,Hd (by simpa using HO5.out),Hd (Below.refl _ _)⟩
 case round =>
  obtain⟨k,v0,rfl,rfl,hk,HOK,HBK⟩:=hrel;by_cases hlt:k<dl
  case neg =>
   have hlz:¬((k:Int)<(dl:Int)):=by omega
   gi_wp2_with fail
   go_ret
   have h:=HOK.out;have e:k=g.length:=by have:=HGD.out;omega
   rw[e,List.take_length] at h;exact⟨_,rfl,h,Z5 HB1.out (Z5 HB5.out HBK.out)⟩
  case pos =>
  have hlz:(k:Int)<(dl:Int):=by omega
  obtain⟨wo,rfl⟩:∃wo,wo=wr:=⟨_,rfl⟩;have hkd:k<d.length:=by rw[HDL.out];exact hlt
  obtain⟨x,hx⟩:=Zq (d[k]);have hxg:g[k]? = some x.1.2:=by rw[<-HDP.out];unfold plE;rw[List.getElem?_map,zN hkd,hx];rfl
  have hxm:x.1.2∈g:=List.mem_of_getElem? hxg;have hx1:=HGN.out _ hxm;obtain⟨us,p1,q1,p2,n2,q2,p3,n3,q3,p4,n4,q4,ex,hu,hul,hur,_⟩:=x.data;obtain⟨ga,rfl,e0,e1,e2,e3,e4⟩:=HD5.out.el _ HBK.out k hkd _ _ _ _ _ (by rw[hx];exact ex)
  obtain⟨ea,hea⟩:=Zq (ga.add (k*5));rw[hea] at e0 e1 e2 e3 e4;have hu1:us.length=1:=by rw[hul,hx1]
  rw[hu1] at e1 hu;have hu0:0<us.length:=by omega
  have hn0:0<x.1.2.names.length:=by omega
  obtain⟨a1,rfl,c1⟩:=hu.cells wo (HWW.out _ (Z5 HB5.out HBK.out)) 0 hu0;rw[add_zero'] at c1;have hrd:=hur 0 hu0 hn0;obtain⟨y,hy⟩:=Zq (us[0]);rw[hy] at c1 hrd;obtain⟨oy,cy,rfl,hf1,hf2⟩:=hrd.form;obtain⟨hh,hhe⟩:=Zq (x.1.2.names[0]);have nbh:NB hh:=by rw[<-hhe];exact x.2.2.names.2 _ (List.getElem_mem _)
  rw[hhe] at c1 hrd;obtain⟨ly,hly⟩:=Zq hh.length;rw[hly] at c1 hrd;have HRD:=Hd hrd;have NBH:=Hd nbh;have HTK:Hid (g.take (k+1)=g.take k++[x.1.2]):=by
   show _=_;rw[List.take_add_one,hxg];rfl
  obtain⟨bu,hbu⟩:=Zq (Nm.under hh own);have HGX:Hid (G x.1.2=if bu then Eg.glue1 z.origin own (plE z.recs) (plE c.recs) (i:Int) hh else []):=by
   show _=_;rw[<-HG1.out];unfold Eg.byR;rw[List.head?_eq_getElem?,zN hn0,hhe];show (if Nm.under hh own=true then _ else _)=_
   rw[hbu]
  have HUN:=Hd (refUnder_any (.slice oy ly cy) (.slice pc nc qc) hh own wo (hrd.below (HWW.out _ (Z5 HB5.out HBK.out))) (HCUT.out.below (HWW.out _ (Z5 HB5.out HBK.out))) nbh NCUT.out);rw[hbu] at HUN;have HBO:=Hd (Z5 HB5.out HBK.out);clear hkd hx hxg hxm hx1 ex hu hul hur hu1 hu0 hf1 hf2 hn0 hrd hy hhe nbh hly hbu;gi_wp2_with fail
  refine (callsIn_wide.2 HUN.out).mono ?_;rintro e9 Wa ⟨rfl,b9⟩;have HBA:=Hd (Z5 HBO.out b9);have HBKA:=Hd (Z5 HBK.out b9);have HOA:=Hd (HOK.out.below b9);clear b9 e0 e1 e2 e3 e4 c1 HUN hea;obtain⟨z0,z1,z2,z3⟩:=HCZ.out Wa HBA.out;cases bu with
  | false =>
   gi_wp2_with fail
   refine⟨⟨k+1,_,rfl,by go_num,hlt,?_,HBKA⟩,by simp[intOf];omega⟩
   show EgOut (w:=w) _ _ _ _;rw[HTK.out,List.flatMap_append,<-List.append_assoc];have e:[x.1.2].flatMap G=([]:List PEg):=by rw[List.flatMap_cons,List.flatMap_nil,List.append_nil,HGX.out];rfl
   rw[e,List.append_nil];exact HOA.out.more (by omega)
  | true =>
  gi_wp2_with fail
  refine (callsIn_wide.2 (HDH.out Wa _ hh HBA.out HRD.out NBH.out)).mono ?_;rintro e9 Wb ⟨oa,ca,da,rfl,hda,hdap,hdal,b9⟩;rw[Rs.datOf_mine] at hdap;have HBB:=Hd (Z5 HBA.out b9);have HBKB:=Hd (Z5 HBKA.out b9);have HOB:=Hd (HOA.out.below b9);have HDA:=Hd hda;have HDAP:=Hd hdap;clear b9 hda hdap z0 z1 z2 z3 HOA HBKA;obtain⟨z0,z1,z2,z3⟩:=HCZ.out Wb HBB.out;gi_wp2_with fail
  refine (callsIn_wide.2 (HDC.out Wb _ hh HBB.out HRD.out NBH.out)).mono ?_;rintro e9 Wc ⟨ob,cb,db,rfl,hdb,hdbp,hdbl,b9⟩;rw[Rs.datOf_mine] at hdbp;have HBC:=Hd (Z5 HBB.out b9);have HBKC:=Hd (Z5 HBKB.out b9);have HOC:=Hd (HOB.out.below b9);have hab:=sameDats_any (HWW.out Wc HBC.out) (HDA.out.below b9) hdb hdal;rw[HDAP.out,hdbp] at hab;have hla:(Rs.mine (plE z.recs) hh 1).length=da.length:=by rw[<-HDAP.out,zH]
  have hlb:(Rs.mine (plE c.recs) hh 1).length=db.length:=by rw[<-hdbp,zH]
  obtain⟨la,hla'⟩:∃n,da.length=n:=⟨_,rfl⟩;obtain⟨lb,hlb'⟩:∃n,db.length=n:=⟨_,rfl⟩;obtain⟨sb,hsb⟩:=Zq (Rs.sameDats (Rs.mine (plE z.recs) hh 1) (Rs.mine (plE c.recs) hh 1));have HG2:Hid (Eg.glue1 z.origin own (plE z.recs) (plE c.recs) (i:Int) hh=if (decide (0<la)&&decide (0<lb)&&!sb) then [⟨2,z.origin,own,hh,(i:Int)⟩] else []):=by
   show _=_;have em:∀m:List Rc.PRec,(!m.isEmpty)=decide (0<m.length):=fun m=>by cases m<;>simp
   unfold Eg.glue1;rw[em,em,hla,hlb,hla',hlb',hsb]
  rw[hla',hlb',hsb] at hab;rw[hla'] at hdal ⊢;rw[hlb'] at hdbl ⊢;have HAB:=Hd hab;clear b9 hdb hdbp hab hla hlb hla' hlb' hsb z0 z1 z2 z3 HOB HBKB HDA HDAP;obtain⟨z0,z1,z2,z3⟩:=HCZ.out Wc HBC.out;by_cases ga0:0<la
  case neg =>
   have g1:¬(0:Int)<(la:Int):=by omega
   have g2:decide (0<la)=false:=zL ga0;have g3:decide ((0:Int)<(la:Int))=false:=zL g1;gi_wp2_with fail
   refine⟨⟨k+1,_,rfl,by go_num,hlt,?_,HBKC⟩,by simp[intOf];omega⟩
   show EgOut (w:=w) _ _ _ _;rw[HTK.out,List.flatMap_append,<-List.append_assoc];have e:[x.1.2].flatMap G=([]:List PEg):=by rw[List.flatMap_cons,List.flatMap_nil,List.append_nil,HGX.out,if_pos trivial,HG2.out,g2];rfl
   rw[e,List.append_nil];exact HOC.out.more (by omega)
  case pos =>
  have g1:(0:Int)<(la:Int):=by omega
  have g2:decide (0<la)=true:=zM ga0;have g3:decide ((0:Int)<(la:Int))=true:=zM g1;by_cases gb0:0<lb
  case neg =>
   have g4:¬(0:Int)<(lb:Int):=by omega
   have g5:decide (0<lb)=false:=zL gb0;have g6:decide ((0:Int)<(lb:Int))=false:=zL g4;gi_wp2_with fail
   refine⟨⟨k+1,_,rfl,by go_num,hlt,?_,HBKC⟩,by simp[intOf];omega⟩
   show EgOut (w:=w) _ _ _ _;rw[HTK.out,List.flatMap_append,<-List.append_assoc];have e:[x.1.2].flatMap G=([]:List PEg):=by rw[List.flatMap_cons,List.flatMap_nil,List.append_nil,HGX.out,if_pos trivial,HG2.out,g2,g5];rfl
   rw[e,List.append_nil];exact HOC.out.more (by omega)
  case pos =>
  have g4:(0:Int)<(lb:Int):=by omega
  have g5:decide (0<lb)=true:=zM gb0;have g6:decide ((0:Int)<(lb:Int))=true:=zM g4;gi_wp2_with fail
  refine (callsIn_wide.2 HAB.out).mono ?_;rintro e9 Wd ⟨rfl,b9⟩;have HBD:=Hd (Z5 HBC.out b9);have HBKD:=Hd (Z5 HBKC.out b9);have HOD:=Hd (HOC.out.below b9);clear b9 z0 z1 z2 z3 HOC HBKC HAB;obtain⟨z0,z1,z2,z3⟩:=HCZ.out Wd HBD.out;cases sb with
  | true =>
   gi_wp2_with fail
   refine⟨⟨k+1,_,rfl,by go_num,hlt,?_,HBKD⟩,by simp[intOf];omega⟩
   show EgOut (w:=w) _ _ _ _;rw[HTK.out,List.flatMap_append,<-List.append_assoc];have e:[x.1.2].flatMap G=([]:List PEg):=by rw[List.flatMap_cons,List.flatMap_nil,List.append_nil,HGX.out,if_pos trivial,HG2.out,g2,g5];rfl
   rw[e,List.append_nil];exact HOD.out.more (by omega)
  | false =>
   have HAD:=Hd (eadd_out HOD.out (HWW.out _ HBD.out) (by have:=HGF.out;have:=HGD.out;omega) 2 (i:Int) (.slice oo zn co) (.slice pc nc qc) (.slice oy ly cy) z.origin own hh HZO.out HCUT.out HRD.out HNZ.out NCUT.out NBH.out)
   gi_wp2_with fail
   refine (callsIn_wide.2 HAD.out).mono ?_;rintro e9 We ⟨v',rfl,hO,b9⟩;have HOE:=Hd hO;have HBKE:=Hd (Z5 HBKD.out b9);clear hO b9;gi_wp2_with fail
   refine⟨⟨k+1,_,rfl,by go_num,hlt,?_,HBKE⟩,by simp[intOf];omega⟩
   show EgOut (w:=w) _ _ _ _;rw[HTK.out,List.flatMap_append,<-List.append_assoc];have e:[x.1.2].flatMap G=[(⟨2,z.origin,own,hh,(i:Int)⟩:PEg)]:=by rw[List.flatMap_cons,List.flatMap_nil,List.append_nil,HGX.out,if_pos trivial,HG2.out,g2,g5];rfl
   rw[e];exact HOE.out
end
end
end Go.Proofs.YtgmbefolgppmdaaGreat
