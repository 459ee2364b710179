/- The document's edge: what is wrong with a cut. -/
import Derived.Test.YtgmbefolgppmdaaGreatKEgB
import Derived.Test.YtgmbefolgppmdaaGreatKReg
import Derived.Test.YtgmbefolgppmdaaGreatKAli
namespace Go.Proofs.YtgmbefolgppmdaaGreat
open Go.RowKit Go.Shelf Go.Sort
set_option maxRecDepth 100000
section
attribute [local go_sem] Oper.semAt_some
section
variable {w:World}
set_option maxHeartbeats 16000000 in
theorem rEdge_any {W0:World} (hb:Below w.heap.size w W0) (v:Value) (R:List PEg) (N:Nat) (hO:EgOut (w:=w) R N v W0) (hN:N<=30000) (vh n1 n2 n3:Value) (hs:List (HE w)) (hv:GRd 6 vh (hs.map encHo) w) (hn:hs.length<=6) (z:ZE w) (pc:Option Addr) (nc qc:Nat) (own:List (List UInt8)) (hcut:Rd (.slice pc nc qc) own w) (ncut:NB own) (g:List Rc.PRec) (how:Eg.ownerOf g=own) (hg:Rs.mine (plE z.recs) own 2=g) (hgn:∀r∈g,r.names.length=1) (hgt:∀r∈g,r.type=2) :
  Calls Tryz.prog 31 #[v,.agg #[vh,n1,n2,n3],.agg (encZ z).toArray,.slice pc nc qc] W0 (EAddR (w:=w) (R++Eg.ofP ((Eg.zs hs).map Eg.pz) z.origin (plE z.recs) g) (N+g.length+24*(1+g.length)+1) W0):=by
 obtain⟨oo,co,or,cr,hze,hzo,hzr⟩:=ze_form z;obtain⟨oh,ch,rfl,_,_⟩:=hv.form;rw[Zf] at hv ⊢;have HPA:Hid (∀(W':World) (v':Value) (R':List PEg) (N':Nat) (c:ZE w) (i:Nat),Below W0.heap.size W0 W'->EgOut (w:=w) R' N' v' W'->N'<=40000->Calls Tryz.prog 64 #[v',.agg (encZ z).toArray,.slice pc nc qc,.agg (encZ c).toArray,.int .i64 (i:Int)] W' (EAddR (w:=w) (R'++Eg.pair z.origin (plE z.recs) g c.origin (plE c.recs) (i:Int)) (N'+1+g.length) W')):=fun W' v' R' N' c i hW hO' hN'=>rPair_any (Z5 hb hW) v' R' N' hO' hN' z c pc nc qc own hcut ncut g how hg hgn hgt i
 have HOFP:Hid (Eg.ofP ((Eg.zs hs).map Eg.pz) z.origin (plE z.recs) g=g.flatMap (Eg.byR own (Eg.nog z.origin own (plE z.recs)))++((Eg.zs hs).map Eg.pz).flatMap (Eg.ag z.origin (plE z.recs) g)++(if ((Eg.zs hs).map Eg.pz).any (fun p=>Nm.same p.2.1 own) then [] else [⟨4,z.origin,own,[],0⟩])):=by
  show _=_;unfold Eg.ofP;rw[Eg.inner_by hgt,how]
 obtain⟨G,hG⟩:=Zq (Eg.byR own (Eg.nog z.origin own (plE z.recs)));obtain⟨R1,hR1⟩:=Zq (R++g.flatMap G);obtain⟨Ga,hGa⟩:=Zq (Eg.ag z.origin (plE z.recs) g);rw[HOFP.out,hG,hGa,<-List.append_assoc,<-List.append_assoc,hR1];have HG1:=Hd hG;have HR1E:=Hd hR1;have HGA:=Hd hGa;obtain⟨zp,hzp⟩:=Zq ((Eg.zs hs).map Eg.pz);have hz24:(Eg.zs hs).length<=24:=by have:=Eg.zs_len hs 0;show (Eg.zsF hs 0).length<=_;omega
 rw[hze] at HPA;rw[hzp,hze];obtain⟨zn,hzn⟩:=Zq z.origin.length;obtain⟨zl,hzl⟩:=Zq z.recs.length;obtain⟨hl,hhl⟩:=Zq hs.length;rw[hzn] at hzo;rw[hzl] at hzr;rw[hzn,hzl] at HPA;rw[hhl] at hv;rw[hzn,hzl,hhl];obtain⟨TL,hTL⟩:∃t,(if (zp.any (fun p=>Nm.same p.2.1 own))=true then [] else [(⟨4,z.origin,own,[],0⟩:PEg)])=t:=⟨_,rfl⟩
 rw[hTL];have HTL:=Hd hTL;clear hTL;have zl60:z.recs.length<=1000:=by have:=z.len;omega
 obtain⟨W1,hW1⟩:=Zq ((W0.alloc (.cells #[.slice oh hl ch,n1,n2,n3] 35)).alloc (.cells #[.slice oo zn co,.slice or zl cr] 66));have HB1:Hid (Below W0.heap.size W0 W1):=by show Below _ _ _;rw[<-hW1];exact (Zr).alloc (by simp) _
 have hk0:Blk W0.heap.size #[.slice oh hl ch,n1,n2,n3] 35 W1:=by rw[<-hW1];exact (Blk.new W0 _ _).alloc _
 have hk1:Blk (W0.heap.size+1) #[.slice oo zn co,.slice or zl cr] 66 W1:=by
  rw[<-hW1];have:=Blk.new (W0.alloc (.cells #[.slice oh hl ch,n1,n2,n3] 35)) #[.slice oo zn co,.slice or zl cr] 66
  rwa [World.size_alloc] at this
 have HCZ:Hid (∀W',Below W1.heap.size W1 W'->W'.cell? ⟨W0.heap.size,0,none⟩=some (.slice oh hl ch)/\W'.cell? ⟨W0.heap.size+1,0,none⟩=some (.slice oo zn co)/\W'.cell? ⟨W0.heap.size+1,1,none⟩=some (.slice or zl cr)):=fun W' hW=>⟨(hk0.below hW).cell 0,(hk1.below hW).cell 0,(hk1.below hW).cell 1⟩
 have hw1:∀{W'},Below W1.heap.size W1 W'->Below w.heap.size w W':=fun hW=>Z5 (Z5 hb HB1.out) hW
 have HWW:Hid (∀W',Below W1.heap.size W1 W'->Below w.heap.size w W'):=fun _ hW=>hw1 hW
 have HD1:Hid (∀W',Below W1.heap.size W1 W'->Calls Tryz.prog 60 #[.agg #[.slice oo zn co,.slice or zl cr],.slice pc nc qc,.int .i64 2] W' (RDatR z.recs own 2 W')):=fun W' hW=>rDatas_any oo zn co _ _ z.recs own 2 (hw1 hW) (hzr.kept (hw1 hW)) zl60 (hcut.below (hw1 hW)) ncut
 have HHA:Hid (∀W' (vh:Value) (h:List (List UInt8)),Below W1.heap.size W1 W'->Rd vh h w->NB h->Calls Tryz.prog 62 #[.agg #[.slice oo zn co,.slice or zl cr],vh,.int .i64 1] W' (Gives (.bool (Zn.has (plE z.recs) h 1)) W')):=fun W' vh h hW hr nb=>rHas_any oo zn co _ _ z.recs h 1 (hw1 hW) (hzr.kept (hw1 hW)) zl60 (hr.below (hw1 hW)) nb
 have HCUT:=Hd hcut;have NCUT:=Hd ncut;have HZO:=Hd hzo;have HNZ:=Hd z.nb;have HG:=Hd hg;have HGN:=Hd hgn;have HOW:=Hd how;have HO1:=Hd (hO.below HB1.out);have HHV:=Hd hv;have HHL:=Hd hhl;have HZP:=Hd hzp;have HZ24:=Hd hz24;have hl6:(hl:Int)<=6:=by omega
 have HGF:Hid (g.length<=60):=by
  show _<=_;rw[<-hg];have h1:(Rs.mine (plE z.recs) own 2).length<=(plE z.recs).length:=by
   unfold Rs.mine;exact Nat.le_trans (Rc.canon_len _) (List.length_filter_le _ _)
  rw[zH] at h1;have:=z.len
  omega
 obtain⟨z0,z1,z2⟩:=HCZ.out W1 (Below.refl _ _);clear hcut ncut hzo hzr hze hzn hzl how hg hgn hgt hO hk0 hk1 hb hw1 hv hhl hzp hz24 hn HOFP hG hR1 hGa;refine (zF (n:=0)).1 ?_;refine callsIn_of_wp Tryz.func31 rfl trivial ?_ rfl;simp only[Tryz.ntmps31,Zo,Ze,Zg,Nat.reduceAdd,Nat.reduceSub,Zi,Zj,Zk,Zl,Zm,Zp];gi_wp2_with fail
 clear hW1;refine (callsIn_wide.2 (HD1.out W1 (Below.refl _ _))).mono ?_;rintro e9 W2 ⟨od,cd,d,rfl,hd,hdp,hdl,b2⟩;rw[Rs.datOf_mine,HG.out] at hdp;obtain⟨dl,hdl'⟩:∃n,d.length=n:=⟨_,rfl⟩;have hgd:g.length=dl:=by rw[<-hdp,zH,hdl']
 rw[hdl'] at hd hdl ⊢;have HD:=Hd hd;have HDP:=Hd hdp;have HDL:=Hd hdl';have HB2:=Hd b2;have HO2:=Hd (HO1.out.below b2);have HGD:=Hd hgd;have dz:(dl:Int)<=1000:=by omega
 clear hd hdp hdl' b2 z0 z1 z2 hgd HO1;gi_wp2_with fail
 gi_loopw [0,10] (fun u0 v10 W=>∃(k:Nat) (v0:Value),v0=u0/\v10=.int .i64 k/\k<=dl/\Hid (EgOut (w:=w) (R++(g.take k).flatMap G) (N+k) v0 W)/\Hid (Below W2.heap.size W2 W)) (fun _ v10 _=>dl-(intOf v10).toNat)
 case atStart=>exact⟨0,_,rfl,rfl,Nat.zero_le _,Hd (by simpa using HO2.out),Hd (Below.refl _ _)⟩
 case round =>
  obtain⟨k,v0,rfl,rfl,hk,HOK,HBK⟩:=hrel;by_cases hlt:k<dl
  case neg =>
   have hlz:¬((k:Int)<(dl:Int)):=by omega
   have HR1:Hid (EgOut (w:=w) (R++g.flatMap G) (N+dl) v0 wr):=by
    have h:=HOK.out;have e:k=g.length:=by have:=HGD.out;omega
    rw[e,List.take_length] at h;show EgOut _ _ _ _;rw[HGD.out] at h;exact h
   have HBR:=Hd (Z5 HB2.out HBK.out);rw[HR1E.out] at HR1;obtain⟨wr,rfl⟩:∃q,q=wr:=⟨_,rfl⟩;clear HOK HBK hk hlt;gi_wp2_with fail
   gi_loopw [0,12,13] (fun u0 v12 v13 W=>∃(i:Nat) (v0:Value) (b:Bool),v0=u0/\v12=.bool b/\v13=.int .i64 i/\i<=hl/\Hid (EgOut (w:=w) (R1++(zp.take (Eg.off hs i)).flatMap Ga) (N+dl+(Eg.off hs i)*(1+dl)) v0 W)/\Hid ((zp.take (Eg.off hs i)).any (fun p=>Nm.same p.2.1 own)=b)/\Hid (Below W1.heap.size W1 W)) (fun _ _ v13 _=>hl-(intOf v13).toNat)
   case atStart=>exact⟨0,_,_,rfl,rfl,rfl,Nat.zero_le _,Hd (by rw[Eg.off_zero];simpa using HR1.out),Hd (by rw[Eg.off_zero];simp),HBR⟩
   case round =>
    clear HR1 HBR;obtain⟨i,v0,b,rfl,rfl,rfl,hi,HOI,HSI,HBI⟩:=hrel;by_cases hlt:i<hl
    case neg =>
     have hlz:¬((i:Int)<(hl:Int)):=by omega
     have hoff:Eg.off hs i=zp.length:=by rw[show i=hs.length by have:=HHL.out;omega,Eg.off_all,<-HZP.out,Zf]
     have HOF:Hid (EgOut (w:=w) (R1++zp.flatMap Ga) (N+dl+24*(1+dl)) v0 wr):=by
      have h:=HOI.out;rw[hoff,List.take_length] at h;have hl24:zp.length<=24:=by rw[<-HZP.out,Zf];exact HZ24.out
      have:=Nat.mul_le_mul_right (1+dl) hl24
      exact h.more (by omega)
     have HSF:Hid (zp.any (fun p=>Nm.same p.2.1 own)=b):=by
      have h:=HSI.out;rw[hoff,List.take_length] at h;exact h
     clear hoff HOI HSI;obtain⟨z0,z1,z2⟩:=HCZ.out wr HBI.out;cases b with
     | true =>
      gi_wp2_with fail
      go_ret
      rw[<-HTL.out,HSF.out,if_pos rfl,List.append_nil,HGD.out];exact⟨_,rfl,HOF.out.more (by omega),Z5 HB1.out HBI.out⟩
     | false =>
      have HAD:=Hd (eadd_out HOF.out (HWW.out _ HBI.out) (by have:=HGF.out;have:=HGD.out;omega) 4 0 (.slice oo zn co) (.slice pc nc qc) (.slice none 0 0) z.origin own [] HZO.out HCUT.out (Rd.nil w) HNZ.out NCUT.out NB.nil')
      gi_wp2_with fail
      refine (callsIn_wide.2 HAD.out).mono ?_;rintro e9 Wz ⟨v',rfl,hO,b9⟩;have HOX:=Hd hO;have HBX:=Hd (Z5 (Z5 HB1.out HBI.out) b9);clear hO b9;gi_wp2_with fail
      go_ret
      rw[<-HTL.out,HSF.out,if_neg Bool.false_ne_true,HGD.out];exact⟨_,rfl,HOX.out,HBX.out⟩
    case pos =>
    have hlz:(i:Int)<(hl:Int):=by omega
    have his:i<hs.length:=by rw[HHL.out];exact hlt
    obtain⟨wr,rfl⟩:∃q,q=wr:=⟨_,rfl⟩;obtain⟨a,rfl,q0,q1⟩:=(HHV.out.below (HWW.out _ HBI.out)).at (by decide) i (by rw[Zf];exact his)
    obtain⟨x,hx⟩:=Zq (hs[i]);have HX:Hid (hs[i]? = some x):=by show _=_;rw[zN his,hx]
    obtain⟨oz,cz,hvz,_,_⟩:=x.hz.form;have HZR:=x.hz;rw[Zf] at hvz;obtain⟨m,hm⟩:=Zq x.zones.length;have hml:m<=4:=by rw[<-hm];exact x.len
    have hmz:(m:Int)<=4:=by omega
    rw[hm] at hvz;rw[hvz] at HZR;obtain⟨ea,hea⟩:=Zq (a.add (i*6));have HE5:Hid (∀W',Below W1.heap.size W1 W'->W'.cell? ⟨ea.block,ea.off+5,none⟩=some (.slice oz m cz)/\W'.cell? ⟨W0.heap.size,0,none⟩=some (.slice (some a) hl ch)/\W'.cell? ⟨W0.heap.size+1,0,none⟩=some (.slice oo zn co)/\W'.cell? ⟨W0.heap.size+1,1,none⟩=some (.slice or zl cr)):=fun W' hW=>by
     obtain⟨a',ha',p0,p1⟩:=(HHV.out.below (HWW.out _ hW)).at (by decide) i (by rw[Zf];exact his)
     cases ha';rw[List.getElem_map,hx,hea] at p0 p1;obtain⟨t0,t1,t2⟩:=HCZ.out W' hW;exact⟨(p1 5 (by decide) (by decide)).trans (by rw[<-hvz];rfl),t0,t1,t2⟩
    have HZR2:=Hd HZR;have HM:=Hd hm;have HOS:Hid (Eg.off hs (i+1)=Eg.off hs i+m):=by show _=_;rw[Eg.off_succ hs i his,hx,hm]
    clear HZR hvz hm q0 q1 hx;obtain⟨y5,z0,z1,z2⟩:=HE5.out wr HBI.out;gi_wp2_with fail
    gi_loopw [0,12,14] (fun u0 v12 v14 W=>∃(j:Nat) (v0:Value) (b:Bool),v0=u0/\v12=.bool b/\v14=.int .i64 j/\j<=m/\Hid (EgOut (w:=w) (R1++(zp.take (Eg.off hs i+j)).flatMap Ga) (N+dl+(Eg.off hs i+j)*(1+dl)) v0 W)/\Hid ((zp.take (Eg.off hs i+j)).any (fun p=>Nm.same p.2.1 own)=b)/\Hid (Below W1.heap.size W1 W)) (fun _ _ v14 _=>m-(intOf v14).toNat)
    case atStart=>exact⟨0,_,_,rfl,rfl,rfl,Nat.zero_le _,HOI,HSI,HBI⟩
    case round =>
     clear HOI HSI HBI y5 z0 z1 z2;obtain⟨j,v0,b,rfl,rfl,rfl,hj,HOJ,HSJ,HBJ⟩:=hrel;obtain⟨wr,rfl⟩:∃q,q=wr:=⟨_,rfl⟩;obtain⟨y5,z0,z1,z2⟩:=HE5.out wr HBJ.out;by_cases hlj:j<m
     case neg =>
      have hljz:¬((j:Int)<(m:Int)):=by omega
      gi_wp2_with fail
      have e:Eg.off hs (i+1)=Eg.off hs i+j:=by rw[HOS.out];omega
      refine⟨⟨i+1,_,_,rfl,rfl,by go_num,hlt,?_,?_,HBJ⟩,by simp[intOf];omega⟩
      ·show EgOut _ _ _ _
       rw[e];exact HOJ.out
      ·show _=_
       rw[e];exact HSJ.out
     case pos =>
     have hljz:(j:Int)<(m:Int):=by omega
     have hjx:j<x.zones.length:=by rw[HM.out];exact hlj
     obtain⟨a2,rfl,r0,r1⟩:=(HZR2.out.below (HWW.out _ HBJ.out)).at (by decide) j (by rw[Zf];exact hjx)
     obtain⟨c,hc⟩:=Zq (x.zones[j]);obtain⟨ox,cx,ow,cw,hce,hco,hcr⟩:=ze_form c;have hpc:(Eg.zs hs)[Eg.off hs i+j]? = some (i,c):=by
      obtain⟨h1,h2⟩:=Eg.zs_at hs i j his (by
       have h:=HX.out;rw[zN his] at h;rw[Option.some.inj h];exact hjx)
      rw[zN h1,h2];have h:=HX.out;rw[zN his] at h;have h':=Option.some.inj h;subst h';rw[hc]
     have HPC:Hid (zp[Eg.off hs i+j]? = some (Eg.pz (i,c))):=by show _=_;rw[<-HZP.out,List.getElem?_map,hpc];rfl
     have HTK:Hid (zp.take (Eg.off hs i+j+1)=zp.take (Eg.off hs i+j)++[Eg.pz (i,c)]):=by
      show _=_;rw[List.take_add_one,HPC.out];rfl
     have HL24:Hid (Eg.off hs i+j<24):=by
      have h1:=(List.getElem?_eq_some_iff.1 hpc).1;have:=HZ24.out
      show _<_;omega
     rw[List.getElem_map,hc,hce] at r0 r1;obtain⟨eb,heb⟩:=Zq (a2.add (j*2));rw[heb] at r0 r1;have HPAC:Hid (∀(W':World) (v':Value) (R':List PEg) (N':Nat),Below W1.heap.size W1 W'->EgOut (w:=w) R' N' v' W'->N'<=40000->Calls Tryz.prog 64 #[v',.agg #[.slice oo zn co,.slice or zl cr],.slice pc nc qc,.agg #[.slice ox c.origin.length cx,.slice ow c.recs.length cw],.int .i64 (i:Int)] W' (EAddR (w:=w) (R'++Eg.pair z.origin (plE z.recs) g c.origin (plE c.recs) (i:Int)) (N'+1+g.length) W')):=fun W' v' R' N' hW hO' hN'=>by
      have h:=HPA.out W' v' R' N' c i (Z5 HB1.out hW) hO' hN'
      rwa [hce] at h
     have HC0:Hid (∀W',Below W1.heap.size W1 W'->W'.cell? eb=some (.slice ox c.origin.length cx)/\W'.cell? ⟨eb.block,eb.off+1,none⟩=some (.slice ow c.recs.length cw)):=fun W' hW=>by
      obtain⟨a',ha',p0,p1⟩:=(HZR2.out.below (HWW.out _ hW)).at (by decide) j (by rw[Zf];exact hjx)
      cases ha';rw[List.getElem_map,hc,hce,heb] at p0 p1;exact⟨p0,p1 1 (by decide) (by decide)⟩
     obtain⟨bs,hbs⟩:=Zq (Nm.same c.origin own);have HAG:Hid (Ga (Eg.pz (i,c))=if bs then Eg.pair z.origin (plE z.recs) g c.origin (plE c.recs) (i:Int) else []):=by
      show _=_;rw[<-HGA.out];unfold Eg.ag;rw[HOW.out];show (if Nm.same c.origin own=true then _ else _)=_
      rw[hbs];rfl
     have HSM:=Hd (zC (.slice ox c.origin.length cx) (.slice pc nc qc) c.origin own wr (hco.below (HWW.out _ HBJ.out)) (HCUT.out.below (HWW.out _ HBJ.out)) c.nb NCUT.out);rw[hbs] at HSM;have HBS:Hid (Nm.same (Eg.pz (i,c)).2.1 own=bs):=hbs;obtain⟨cn,hcn⟩:=Zq c.origin.length;obtain⟨cl,hcl⟩:=Zq c.recs.length;rw[hcn,hcl] at HPAC HC0;rw[hcn] at HSM;obtain⟨c0,c1⟩:=HC0.out wr HBJ.out;clear hc hce hco hcr hpc r0 r1 hbs hcn hcl;gi_wp2_with fail
     refine (callsIn_wide.2 HSM.out).mono ?_;rintro e9 Wa ⟨rfl,b9⟩;have HBA:=Hd (Z5 HBJ.out b9);have HOA:=Hd (HOJ.out.below b9);clear b9 y5 z0 z1 z2 c0 c1 HSM HOJ;obtain⟨y5,z0,z1,z2⟩:=HE5.out Wa HBA.out;obtain⟨c0,c1⟩:=HC0.out Wa HBA.out;cases bs with
     | false =>
      gi_wp2_with fail
      refine⟨⟨j+1,_,_,rfl,rfl,by go_num,hlj,?_,?_,HBA⟩,by simp[intOf];omega⟩
      ·show EgOut _ _ _ _
       rw[<-Nat.add_assoc,HTK.out,List.flatMap_append,<-List.append_assoc];have e:[Eg.pz (i,c)].flatMap Ga=[]:=by rw[List.flatMap_cons,List.flatMap_nil,List.append_nil,HAG.out];rfl
       rw[e,List.append_nil];exact HOA.out.more (by rw[Nat.succ_mul];omega)
      ·show _=_
       rw[<-Nat.add_assoc,HTK.out,List.any_append,HSJ.out,List.any_cons,List.any_nil,HBS.out];simp
     | true =>
      gi_upto_region 17 with fail
      refine Z8 [1,4,7,8,10,11,13] (fun W'=>W'.cell? ⟨ea.block,ea.off+5,none⟩=some (.slice (some a2) m cz)/\W'.cell? ⟨W0.heap.size,0,none⟩=some (.slice (some a) hl ch)/\W'.cell? ⟨W0.heap.size+1,0,none⟩=some (.slice oo zn co)/\W'.cell? ⟨W0.heap.size+1,1,none⟩=some (.slice or zl cr)/\W'.cell? eb=some (.slice ox cn cx)/\W'.cell? ⟨eb.block,eb.off+1,none⟩=some (.slice ow cl cw)) 15 rfl (by kernel_rfl) ?_
      intro wa hwa;have HBwa:Hid (Below W1.heap.size W1 wa):=by subst hwa;exact HBA.out.drew
      have HOwa:Hid (EgOut (w:=w) (R1++(zp.take (Eg.off hs i+j)).flatMap Ga) (N+dl+(Eg.off hs i+j)*(1+dl)) v0 wa):=HOA.out.below (by subst hwa;exact (Below.refl _ _).drew)
      have HSS:Hid (∀W',Below W1.heap.size W1 W'->W'.cell? ⟨ea.block,ea.off+5,none⟩=some (.slice (some a2) m cz)/\W'.cell? ⟨W0.heap.size,0,none⟩=some (.slice (some a) hl ch)/\W'.cell? ⟨W0.heap.size+1,0,none⟩=some (.slice oo zn co)/\W'.cell? ⟨W0.heap.size+1,1,none⟩=some (.slice or zl cr)/\W'.cell? eb=some (.slice ox cn cx)/\W'.cell? ⟨eb.block,eb.off+1,none⟩=some (.slice ow cl cw)):=fun W' hW=>by
       obtain⟨t0,t1,t2,t3⟩:=HE5.out W' hW;obtain⟨t4,t5⟩:=HC0.out W' hW;exact⟨t0,t1,t2,t3,t4,t5⟩
      have hS:=HSS.out wa HBwa.out;clear hwa;refine tB 0 ?_;refine tB 2 ?_;refine tB 3 ?_;refine tB 5 ?_;refine tB 9 ?_;refine tB 12 ?_;refine tA 4 hS ?_;refine tB 6 ?_;refine tA 7 hS ?_;refine tA 8 hS ?_;refine tA 10 hS ?_;refine tA 1 hS ?_;refine tA 11 hS ?_;refine oneH 13 (by rfl) (by kernel_rfl) (fun K hK=>?_)
      gi_wp2_with fail
      refine (callsIn_wide.2 (HPAC.out wa _ _ _ HBwa.out HOwa.out (by have h1:=HL24.out;have h2:=HGF.out;have h3:=HGD.out;have:(Eg.off hs i+j)*(1+dl)<=24*61:=Nat.mul_le_mul (by omega) (by omega);omega))).mono ?_
      rintro e9 wb ⟨v',rfl,hO,b9⟩;have HBwb:=Hd (Z5 HBwa.out b9);have HOwb:=Hd hO;clear hO b9;gi_wp2_with fail
      refine hK _ _ (fun _=>HSS.out wb HBwb.out) ?_
      clear hK K;refine oneH 14 (by rfl) (by kernel_rfl) (fun K hK=>?_)
      gi_wp2_with fail
      refine hK _ _ (fun _=>HSS.out wb HBwb.out) ?_
      clear hK K;refine Z9 (by kernel_rfl) ?_
      gi_wp2_with fail
      refine⟨⟨j+1,_,_,rfl,rfl,by go_num,hlj,?_,?_,HBwb⟩,by simp[intOf];omega⟩
      ·show EgOut _ _ _ _
       rw[<-Nat.add_assoc,HTK.out,List.flatMap_append,<-List.append_assoc];have e:[Eg.pz (i,c)].flatMap Ga=Eg.pair z.origin (plE z.recs) g c.origin (plE c.recs) (i:Int):=by rw[List.flatMap_cons,List.flatMap_nil,List.append_nil,HAG.out];rfl
       rw[e];exact HOwb.out.more (by have:=HGD.out;rw[Nat.succ_mul];omega)
      ·show _=_
       rw[<-Nat.add_assoc,HTK.out,List.any_append,HSJ.out,List.any_cons,List.any_nil,HBS.out];simp
  case pos =>
  have hlz:(k:Int)<(dl:Int):=by omega
  obtain⟨wo,rfl⟩:∃wo,wo=wr:=⟨_,rfl⟩;have hkd:k<d.length:=by rw[HDL.out];exact hlt
  obtain⟨x,hx⟩:=Zq (d[k]);have hxg:g[k]? = some x.1.2:=by rw[<-HDP.out];unfold plE;rw[List.getElem?_map,zN hkd,hx];rfl
  have hxm:x.1.2∈g:=List.mem_of_getElem? hxg;have hx1:=HGN.out _ hxm;obtain⟨us,p1,q1,p2,n2,q2,p3,n3,q3,p4,n4,q4,ex,hu,hul,hur,_⟩:=x.data;obtain⟨ga,rfl,e0,e1,e2,e3,e4⟩:=HD.out.el _ HBK.out k hkd _ _ _ _ _ (by rw[hx];exact ex)
  obtain⟨ea,hea⟩:=Zq (ga.add (k*5));rw[hea] at e0 e1 e2 e3 e4;have hu1:us.length=1:=by rw[hul,hx1]
  rw[hu1] at e1 hu;have hu0:0<us.length:=by omega
  have hn0:0<x.1.2.names.length:=by omega
  obtain⟨a1,rfl,c1⟩:=hu.cells wo (HWW.out _ (Z5 HB2.out HBK.out)) 0 hu0;rw[add_zero'] at c1;have hrd:=hur 0 hu0 hn0;obtain⟨y,hy⟩:=Zq (us[0]);rw[hy] at c1 hrd;obtain⟨oy,cy,rfl,hf1,hf2⟩:=hrd.form;obtain⟨hh,hhe⟩:=Zq (x.1.2.names[0]);have nbh:NB hh:=by rw[<-hhe];exact x.2.2.names.2 _ (List.getElem_mem _)
  rw[hhe] at c1 hrd;obtain⟨ly,hly⟩:=Zq hh.length;rw[hly] at c1 hrd;have HRD:=Hd hrd;have NBH:=Hd nbh;have HTK:Hid (g.take (k+1)=g.take k++[x.1.2]):=by
   show _=_;rw[List.take_add_one,hxg];rfl
  obtain⟨bu,hbu⟩:=Zq (Nm.under hh own);obtain⟨bh,hbh⟩:=Zq (Zn.has (plE z.recs) hh 1);have HGX:Hid (G x.1.2=if (bu&&!bh) then [⟨3,z.origin,own,hh,0⟩] else []):=by
   show _=_;rw[<-HG1.out];unfold Eg.byR;rw[List.head?_eq_getElem?,zN hn0,hhe];show (if Nm.under hh own=true then Eg.nog _ _ _ hh else _)=_
   unfold Eg.nog;rw[hbu,hbh];cases bu<;>cases bh<;>rfl
  have HUN:=Hd (refUnder_any (.slice oy ly cy) (.slice pc nc qc) hh own wo (hrd.below (HWW.out _ (Z5 HB2.out HBK.out))) (HCUT.out.below (HWW.out _ (Z5 HB2.out HBK.out))) nbh NCUT.out);rw[hbu] at HUN;have HBO:=Hd (Z5 HB2.out HBK.out);have HBH:=Hd hbh;clear hkd hx hxg hxm hx1 ex hu hul hur hu1 hu0 hf1 hf2 hn0 hrd hy hhe nbh hly hbu hbh;gi_wp2_with fail
  refine (callsIn_wide.2 HUN.out).mono ?_;rintro e9 Wa ⟨rfl,b9⟩;have HBA:=Hd (Z5 HBO.out b9);have HBKA:=Hd (Z5 HBK.out b9);have HOA:=Hd (HOK.out.below b9);clear b9 e0 e1 e2 e3 e4 c1 HUN hea;obtain⟨z0,z1,z2⟩:=HCZ.out Wa HBA.out;cases bu with
  | false =>
   gi_wp2_with fail
   refine⟨⟨k+1,_,rfl,by go_num,hlt,?_,HBKA⟩,by simp[intOf];omega⟩
   show EgOut (w:=w) _ _ _ _;rw[HTK.out,List.flatMap_append,<-List.append_assoc];have e:[x.1.2].flatMap G=([]:List PEg):=by rw[List.flatMap_cons,List.flatMap_nil,List.append_nil,HGX.out];rfl
   rw[e,List.append_nil];exact HOA.out.more (by omega)
  | true =>
  gi_wp2_with fail
  refine (callsIn_wide.2 (HHA.out Wa _ hh HBA.out HRD.out NBH.out)).mono ?_;rintro e9 Wb ⟨rfl,b9⟩;rw[HBH.out];have HBB:=Hd (Z5 HBA.out b9);have HBKB:=Hd (Z5 HBKA.out b9);have HOB:=Hd (HOA.out.below b9);clear b9 z0 z1 z2 HOA HBKA HBH;obtain⟨z0,z1,z2⟩:=HCZ.out Wb HBB.out;cases bh with
  | true =>
   gi_wp2_with fail
   refine⟨⟨k+1,_,rfl,by go_num,hlt,?_,HBKB⟩,by simp[intOf];omega⟩
   show EgOut (w:=w) _ _ _ _;rw[HTK.out,List.flatMap_append,<-List.append_assoc];have e:[x.1.2].flatMap G=([]:List PEg):=by rw[List.flatMap_cons,List.flatMap_nil,List.append_nil,HGX.out];rfl
   rw[e,List.append_nil];exact HOB.out.more (by omega)
  | false =>
   have HAD:=Hd (eadd_out HOB.out (HWW.out _ HBB.out) (by have:=HGF.out;have:=HGD.out;omega) 3 0 (.slice oo zn co) (.slice pc nc qc) (.slice oy ly cy) z.origin own hh HZO.out HCUT.out HRD.out HNZ.out NCUT.out NBH.out)
   gi_wp2_with fail
   refine (callsIn_wide.2 HAD.out).mono ?_;rintro e9 We ⟨v',rfl,hO,b9⟩;have HOE:=Hd hO;have HBKE:=Hd (Z5 HBKB.out b9);clear hO b9;gi_wp2_with fail
   refine⟨⟨k+1,_,rfl,by go_num,hlt,?_,HBKE⟩,by simp[intOf];omega⟩
   show EgOut (w:=w) _ _ _ _;rw[HTK.out,List.flatMap_append,<-List.append_assoc];have e:[x.1.2].flatMap G=[(⟨3,z.origin,own,hh,0⟩:PEg)]:=by rw[List.flatMap_cons,List.flatMap_nil,List.append_nil,HGX.out];rfl
   rw[e];exact HOE.out
end
end
section
attribute [local go_sem] Oper.semAt_some
section
variable {w:World}
def NmsW (us:List Value) (ns:List (List (List UInt8))):Prop:=us.length=ns.length/\∀i (h:i<us.length) (h':i<ns.length),Rd us[i] ns[i] w
theorem NmsW.push {us:List Value} {ns:List (List (List UInt8))} (h:NmsW (w:=w) us ns) {u:Value} {n:List (List UInt8)} (hu:Rd u n w):NmsW (w:=w) (us++[u]) (ns++[n]):=by
 obtain⟨h1,h2⟩:=h;refine⟨by simp[h1],fun i hi hi'=>?_⟩
 by_cases hlt:i<us.length
 ·rw[Zt hlt,Zt (by omega)]
  exact h2 i hlt _
 ·have e:i=us.length:=by simp at hi;omega
  subst e;rw[Zs (Zh _),Zs (by omega)]
  simpa[h1] using hu
def RCutsR (P:List (List Rc.PRec)) (w0:World) (e:Ending) (w':World):Prop :=
 ∃(o:Option Addr) (cap:Nat) (us:List Value),e=.returned (.slice o P.length cap)/\Sl (.slice o P.length cap) us w'/\NmsW (w:=w) us (P.map Eg.ownerOf)/\Below w0.heap.size w0 w'
set_option maxHeartbeats 16000000 in
theorem rCuts_any {W0:World} (hb:Below w.heap.size w W0) (z:ZE w) :
  Calls Tryz.prog 30 #[.agg (encZ z).toArray] W0 (RCutsR (w:=w) (Eg.cutsP z.origin (plE z.recs)) W0):=by
 obtain⟨oo,co,or,cr,hze,hzo,hzr⟩:=ze_form z;obtain⟨o,ho⟩:=Zq z.origin;obtain⟨L,hL⟩:=Zq (plE z.recs);have HCP:Hid (Eg.cutsP o L=(Rs.grpF (Rc.canon L).length (Rc.canon L)).filter (Eg.cutG o L)):=rfl;obtain⟨P,hP⟩:=Zq (Eg.cutsP z.origin (plE z.recs));have HP:Hid (Eg.cutsP o L=P):=by show _=_;rw[<-ho,<-hL];exact hP
 rw[hze,hP];obtain⟨zn,hzn⟩:=Zq z.origin.length;obtain⟨zl,hzl⟩:=Zq z.recs.length;rw[hzn] at hzo;rw[hzl] at hzr;rw[hzn,hzl];have zl60:z.recs.length<=60:=z.len;obtain⟨W1,hW1⟩:=Zq (W0.alloc (.cells #[.slice oo zn co,.slice or zl cr] 66));obtain⟨hb1,hk0⟩:=zBox hW1;have HB1:=Hd hb1;have HCZ:Hid (∀W',Below W1.heap.size W1 W'->W'.cell? ⟨W0.heap.size,0,none⟩=some (.slice oo zn co)/\W'.cell? ⟨W0.heap.size,1,none⟩=some (.slice or zl cr)):=fun W' hW=>⟨(hk0.below hW).cell 0,(hk0.below hW).cell 1⟩
 have hw1:∀{W'},Below W1.heap.size W1 W'->Below w.heap.size w W':=fun hW=>Z5 (Z5 hb hb1) hW
 have HWW:Hid (∀W',Below W1.heap.size W1 W'->Below w.heap.size w W'):=fun _ hW=>hw1 hW
 have HST:=Hd (refSets_any (w0:=W1) (.slice or zl cr) z.recs (Z5 hb hb1) (hzr.kept (Z5 hb hb1)) (by omega))
 have HWH:Hid (∀(W':World) (vn:Value) (n:List (List UInt8)),Below W1.heap.size W1 W'->Rd vn n w->NB n->Calls Tryz.prog 59 #[.agg #[.slice oo zn co,.slice or zl cr],vn] W' (Gives (.int .i64 (Zn.wher o L n)) W')):=fun W' vn n hW hr nb=>by
  have h:=rWhere_any (w0:=W') (.slice oo zn co) (.slice or zl cr) vn z.recs z.origin n (hw1 hW) (hzr.kept (hw1 hW)) (by omega) (hzo.below (hw1 hW)) z.nb (hr.below (hw1 hW)) nb
  rwa [ho,hL] at h
 have HZL:Hid (z.recs.length<=60):=zl60;have HLP:Hid (plE z.recs=L):=hL;obtain⟨z0,z1⟩:=HCZ.out W1 (Below.refl _ _);clear hze hzo hzr ho hL hP hzn hzl zl60 hb1 hk0 hb hw1;refine (zF (n:=0)).1 ?_;refine callsIn_of_wp Tryz.func30 rfl trivial ?_ rfl;simp only[Tryz.ntmps30,Zo,Ze,Zg,Nat.reduceAdd,Nat.reduceSub,Zi,Zj,Zk,Zl,Zm,Zp];gi_wp2_with fail
 clear hW1;refine (callsIn_wide.2 HST.out).mono ?_;rintro e9 W2 ⟨c,v8,hc,hcl,rfl,hsr,b8⟩;obtain⟨os,cs,rfl,hs1,hs2⟩:=hsr.form;have HSR:=Hd hsr;have HB2:=Hd b8;have hgl:=grp_len c;have hg60:(grp c).length<=60:=by have:=HZL.out;omega
 have hgz:((grp c).length:Int)<=60:=by omega
 have HPF:Hid (((grp c).map plE).filter (Eg.cutG o L)=P):=by
  show _=_;rw[<-HP.out,HCP.out,plE_grp,hc,HLP.out]
 obtain⟨gl,hgl'⟩:∃n,(grp c).length=n:=⟨_,rfl⟩;have HGL:=Hd hgl';rw[hgl'] at hg60 hgz ⊢;have HPL:Hid (P.length<=gl):=by
  show _<=_;rw[<-HPF.out,<-hgl'];exact Nat.le_trans (List.length_filter_le _ _) (by rw[Zf];exact Zh _)
 clear hc hsr b8 hgl z0 z1 HST hgl';gi_wp2_with fail
 gi_loopw [3,5] (fun u3 v5 W=>∃(i:Nat) (v3:Value) (us:List Value),v3=u3/\v5=.int .i64 i/\i<=gl/\Hid (Row (fun g=>W2.heap.size<=g) 37 1 v3 us.length us W)/\Hid (NmsW (w:=w) us (((((grp c).take i).map plE).filter (Eg.cutG o L)).map Eg.ownerOf))/\Hid (us.length<=i)/\Hid (Below W2.heap.size W2 W)) (fun _ v5 _=>gl-(intOf v5).toNat)
 case atStart=>exact⟨0,_,[],rfl,rfl,Nat.zero_le _,Hd (Row.nil _ _ _ _),⟨rfl,fun i h=>by simp at h⟩,Zh _,Hd (Below.refl _ _)⟩
 case round =>
  obtain⟨i,v3,us,rfl,rfl,hi,HRI,HNI,HLI,HBI⟩:=hrel;obtain⟨o3,c3,rfl,_,_⟩:=Row.slf HRI.out;by_cases hlt:i<gl
  case neg =>
   have hlz:¬((i:Int)<(gl:Int)):=by omega
   gi_wp2_with fail
   go_ret
   have hn:=HNI.out;rw[List.take_of_length_le (by have:=HGL.out;omega),HPF.out] at hn
   have hl:us.length=P.length:=by rw[hn.1,Zf]
   refine⟨o3,c3,us,by show Ending.returned (Value.slice o3 us.length c3)=_;rw[hl],?_,hn,Z5 HB1.out (Z5 HB2.out HBI.out)⟩
   have h:=Row.sl HRI.out
   rwa [hl] at h
  case pos =>
  have hlz:(i:Int)<(gl:Int):=by omega
  obtain⟨wo,rfl⟩:∃wo,wo=wr:=⟨_,rfl⟩;have hig:i<(grp c).length:=by rw[HGL.out];exact hlt
  obtain⟨ga,rfl,x,xs,po,no',qo,od,cd,e1,e3,e4,e5⟩:=HSR.out.at i hig;obtain⟨e,he⟩:=Zq (ga.add (i*4));obtain⟨t,ht⟩:=Zq x.1.2.type;obtain⟨own,how⟩:=Zq x.1.2.owner;have nbw:NB own:=by rw[<-how];exact x.2.2.owner
  rw[he,ht] at e5;rw[how] at e3;obtain⟨wz,hwz⟩:=Zq (Zn.wher o L own);have HWI:Hid (∀W',Below W2.heap.size W2 W'->Calls Tryz.prog 59 #[.agg #[.slice oo zn co,.slice or zl cr],.slice po no' qo] W' (Gives (.int .i64 wz) W')):=fun W' hW=>by
   have h:=HWH.out W' (.slice po no' qo) own (Z5 HB2.out hW) e3 nbw
   rwa [hwz] at h
  have HCG:Hid (Eg.cutG o L (plE (grp c)[i])=((t == 2)&&(wz == 2))):=by
   show _=_;rw[e1,<-hwz,<-ht,<-how];rfl
  have HOG:Hid (Eg.ownerOf (plE (grp c)[i])=own):=by show _=_;rw[e1,<-how];rfl
  have HDR:Hid (((((grp c).take (i+1)).map plE).filter (Eg.cutG o L)).map Eg.ownerOf=((((grp c).take i).map plE).filter (Eg.cutG o L)).map Eg.ownerOf++(if ((t == 2)&&(wz == 2)) then [own] else [])):=by
   show _=_;rw[Zx hig,List.map_append,List.filter_append,List.map_append,List.map_cons,List.map_nil,List.filter_cons,HCG.out];split
   ·rw[List.filter_nil,List.map_cons,List.map_nil,HOG.out]
   ·rfl
  have HE3:=Hd e3;have HCS:Hid (∀W',Below W2.heap.size W2 W'->Cs [(e,.slice po no' qo),(⟨e.block,e.off+1,none⟩,.int .i64 t),(⟨W0.heap.size,0,none⟩,.slice oo zn co),(⟨W0.heap.size,1,none⟩,.slice or zl cr)] W'):=fun W' hW=>by
   obtain⟨q0,q1,_,_⟩:=e5 W' hW;obtain⟨y0,y1⟩:=HCZ.out W' (Z5 HB2.out hW);exact⟨q0,q1,y0,y1,trivial⟩
  clear e1 ht how e3 e4 e5 nbw hwz hig HOG HCG
  gi_upto_region 6 with fail
  by_cases ht2:t=2
  case neg =>
   have htb:(t == 2)=false:=beq_eq_false_iff_ne.2 ht2;refine Z8 (List.range 16) (Cs [(e,.slice po no' qo),(⟨e.block,e.off+1,none⟩,.int .i64 t),(⟨W0.heap.size,0,none⟩,.slice oo zn co),(⟨W0.heap.size,1,none⟩,.slice or zl cr)]) 16 rfl (by kernel_rfl) ?_
   intro wa hwa;have HBA:Hid (Below W2.heap.size W2 wa):=by subst hwa;exact HBI.out.drew
   have HRA:Hid (Row (fun g=>W2.heap.size<=g) 37 1 (.slice o3 us.length c3) us.length us wa):=HRI.out.below (by subst hwa;exact (Below.refl _ _).drew)
   have hS:=HCS.out wa HBA.out;clear hwa;refine tA 0 hS ?_;refine tA 1 hS ?_;refine tA 2 hS ?_;refine tA 3 hS ?_;refine tA 4 hS ?_;refine tA 5 hS ?_;refine tA 6 hS ?_;simp only[Act.put,Za,Zd,Zc];refine tU 7 hS ?_;refine tU 8 hS ?_;refine tU 9 hS ?_;refine tU 10 hS ?_;refine tU 11 hS ?_;refine tU 12 hS ?_;refine tU 13 hS ?_;refine tU 14 hS ?_;refine tA 15 hS ?_;simp only[Act.put,Za,Zd,Zc];refine Z9 (by kernel_rfl) ?_
   clear hS;gi_wp2_with fail
   refine⟨⟨i+1,_,us,rfl,by go_num,hlt,HRA,?_,Nat.le_succ_of_le HLI.out,HBA⟩,by simp[intOf];omega⟩
   show NmsW _ _;rw[HDR.out,htb];simpa using HNI.out
  case pos =>
  subst ht2;refine Z8 [4,6,7,8,9,10,11,12,13,14,15] (Cs [(e,.slice po no' qo),(⟨e.block,e.off+1,none⟩,.int .i64 2),(⟨W0.heap.size,0,none⟩,.slice oo zn co),(⟨W0.heap.size,1,none⟩,.slice or zl cr)]) 16 rfl (by kernel_rfl) ?_
  intro wa hwa;have HBA:Hid (Below W2.heap.size W2 wa):=by subst hwa;exact HBI.out.drew
  have HRA:Hid (Row (fun g=>W2.heap.size<=g) 37 1 (.slice o3 us.length c3) us.length us wa):=HRI.out.below (by subst hwa;exact (Below.refl _ _).drew)
  have hS:=HCS.out wa HBA.out;have HWA:=Hd (HWI.out wa HBA.out);clear hwa HWI;refine tB 0 ?_;refine tB 1 ?_;refine tB 2 ?_;refine tB 3 ?_;refine tA 4 hS ?_;simp only[Act.put,Za,Zd,Zc];refine tB 5 ?_;refine tA 6 hS ?_;refine tA 8 hS ?_;refine tA 9 hS ?_;refine tA 10 hS ?_;refine tA 11 hS ?_;refine tA 7 hS ?_;refine tA 12 hS ?_;simp only[Act.put,Za,Zd,Zc];refine oneH 13 (by rfl) (by kernel_rfl) (fun K hK=>?_)
  gi_wp2_with fail
  refine (callsIn_wide.2 HWA.out).mono ?_;rintro e9 wb ⟨rfl,b9⟩;have HBB:=Hd (Z5 HBA.out b9);have HRB:=Hd (HRA.out.below b9);clear b9;gi_wp2_with fail
  refine hK _ _ (fun _=>HCS.out wb HBB.out) ?_
  clear hK K;replace hS:=HCS.out wb HBB.out;refine tA 14 hS ?_;refine tA 15 hS ?_;simp only[Act.put,Za,Zd,Zc];refine Z9 (by kernel_rfl) ?_
  clear hS;by_cases hz2:wz=2
  case neg =>
   have hzb:(wz == 2)=false:=beq_eq_false_iff_ne.2 hz2;gi_wp2_with fail
   refine⟨⟨i+1,_,us,rfl,by go_num,hlt,HRB,?_,Nat.le_succ_of_le HLI.out,HBB⟩,by simp[intOf];omega⟩
   show NmsW _ _;rw[HDR.out,hzb];simpa using HNI.out
  case pos =>
  subst hz2;obtain⟨s0,s1,s2,s3,_⟩:=HCS.out wb HBB.out;have HNB:=Hd (show Below wb.heap.size wb (wb.alloc (.cells #[.slice po no' qo] 37)) from Zr)
  have HW0:Hid (W2.heap.size<=wb.heap.size):=HBB.out.size;obtain⟨lq,hlq⟩:=Zq us.length;have HLQ:=Hd hlq;rw[hlq] at HRB ⊢;clear hlq;gi_wp2_with (gi_at_builtin;refine Z7 (fun g=>W2.heap.size<=g) 37 _ 1 24 info_nm rfl (by decide) rfl _ _ _ Tryz.underlying96 rfl _ lq (us.map fun y=>[y]) (by rfl) (by rw[flatten_one];exact HRB.out.below HNB.out) _ [[.slice po no' qo]] (by rfl) (GRd.new [.slice po no' qo] rfl (by simp[Value.oneCell']) wb 37) (by have:=HLI.out;rw[HLQ.out] at this;simp;omega) (by omega) (by have:=HW0.out;simp;omega) ?_;intro v10 w10 hrow10 hgr10;have HR10:=Hd hrow10;have HG10:=Hd hgr10;clear hrow10 hgr10)
  have hr10:=HR10.out;rw[List.flatten_append,flatten_one] at hr10;have hb10:Below W2.heap.size W2 w10:=(Z5 HBB.out HNB.out).grown HG10.out (by have:=HW0.out;simp;omega) (fun g hg=>HRB.out.2 g hg)
  refine⟨⟨i+1,_,us++[.slice po no' qo],rfl,by go_num,hlt,?_,?_,?_,hb10⟩,by simp[intOf];omega⟩
  ·show Row _ _ _ _ _ _ _
   rw[Zb,HLQ.out];exact hr10
  ·show NmsW _ _
   rw[HDR.out];exact HNI.out.push HE3.out
  ·show _<=_
   have:=HLI.out
   simp;omega
end
end
end Go.Proofs.YtgmbefolgppmdaaGreat
