/- A cut of a zone, plainly. -/
import Derived.Test.YtgmbefolgppmdaaGreatKEgY
import Derived.Test.YtgmbefolgppmdaaGreatKAli
import Derived.Test.YtgmbefolgppmdaaGreatKEgE
import Derived.Test.YtgmbefolgppmdaaGreatKReg
import Derived.Test.YtgmbefolgppmdaaGreatKEgQ
import Derived.Test.YtgmbefolgppmdaaGreatKSeW
import Derived.Test.YtgmbefolgppmdaaGreatKZnA
namespace Go.Proofs.YtgmbefolgppmdaaGreat
open Go.RowKit Go.Shelf Go.Sort
set_option maxRecDepth 100000
section
namespace Eg
open Rc in
theorem cut_found {o:List (List UInt8)} {L g:List PRec} (h:g∈cutsP o L):Rs.mine L (ownerOf g) 2=g/\(∀r∈g,r.type=2)/\g≠[]/\Zn.wher o L (ownerOf g)=2:=by
 unfold cutsP at h;obtain⟨h1,h2⟩:=List.mem_filter.1 h;obtain⟨x,xs,rfl,h3,_⟩:=Rs.grp_found h1;have h4:((x.type == 2)&&(Zn.wher o L x.owner == 2))=true:=h2;rw[Bool.and_eq_true,beq_iff_eq,beq_iff_eq] at h4;rw[h4.1] at h3;refine⟨h3,fun r hr=>?_,by simp,h4.2⟩
 rw[<-h3] at hr;exact Rs.canon_all (p:=fun r=>r.type=2) (fun _ _ h=>h) _ (fun z hz=>by
  obtain⟨_,hq⟩:=List.mem_filter.1 hz;unfold Rs.Q at hq;simp only[Bool.and_eq_true,beq_iff_eq] at hq;omega) r hr
end Eg
end
section
attribute [local go_sem] Oper.semAt_some
namespace Eg
theorem cut_names {o:List (List UInt8)} {L g:List Rc.PRec} (hn:∀r∈L,r.type=2->r.names.length=1) (h:g∈cutsP o L):∀r∈g,r.names.length=1:=fun r hr=>by
 obtain⟨h1,h2,_⟩:=cut_found h;have h3:=h2 r hr;rw[<-h1] at hr;exact Rs.canon_all (p:=fun r=>r.type=2->r.names.length=1) (fun _ _ h=>h) _ (fun z hz=>hn z (List.mem_filter.1 hz).1) r hr h3
theorem flat_take {α:Type}:∀(l:List (List α)) (k:Nat),(l.take k).flatten.length<=l.flatten.length
 | [],k=>by simp
 | a::l,0=>by simp
 | a::l,k+1=>by
  have:=flat_take l k
  rw[List.take_succ_cons,List.flatten_cons,List.flatten_cons,Zb,Zb];omega
theorem flat_filter {α:Type} (p:List α->Bool):∀l:List (List α),(l.filter p).flatten.length<=l.flatten.length
 | []=>by simp
 | a::l=>by
  have:=flat_filter p l
  rw[List.filter_cons];split
  ·rw[List.flatten_cons,List.flatten_cons,Zb,Zb];omega
  ·rw[List.flatten_cons,Zb];omega
theorem cutsP_flat (o:List (List UInt8)) (L:List Rc.PRec):(cutsP o L).flatten.length<=L.length:=by
 unfold cutsP;refine Nat.le_trans (flat_filter _ _) ?_;rw[Rs.grpF_flat _ _ (Zh _)];exact Rc.canon_len _
end Eg
section
variable {w:World}
set_option maxHeartbeats 16000000 in
theorem rEdges_any {W0:World} (hb:Below w.heap.size w W0) (vh n1 n2 n3:Value) (hs:List (HE w)) (hv:GRd 6 vh (hs.map encHo) w) (hn:hs.length<=6) (h20:∀h∈hs,∀z∈h.zones,z.recs.length<=20) (hns:∀h∈hs,∀z∈h.zones,∀r∈plE z.recs,r.type=2->r.names.length=1) :
  Calls Tryz.prog 9 #[.agg #[vh,n1,n2,n3]] W0 (EAddR (w:=w) (Eg.flawsP ((Eg.zs hs).map Eg.pz)) 24000 W0):=by
 obtain⟨oh,ch,rfl,_,_⟩:=hv.form;rw[Zf] at hv ⊢;have hz24:(Eg.zs hs).length<=24:=by have:=Eg.zs_len hs 0;show (Eg.zsF hs 0).length<=_;omega
 have HED:Hid (∀(W':World) (v':Value) (R':List PEg) (N':Nat) (z:ZE w) (po:Option Addr) (no qo:Nat) (g:List Rc.PRec),Below W0.heap.size W0 W'->EgOut (w:=w) R' N' v' W'->N'<=30000->Rd (.slice po no qo) (Eg.ownerOf g) w->NB (Eg.ownerOf g)->g∈Eg.cutsP z.origin (plE z.recs)->(∀r∈plE z.recs,r.type=2->r.names.length=1)->Calls Tryz.prog 31 #[v',.agg #[.slice oh hs.length ch,n1,n2,n3],.agg (encZ z).toArray,.slice po no qo] W' (EAddR (w:=w) (R'++Eg.ofP ((Eg.zs hs).map Eg.pz) z.origin (plE z.recs) g) (N'+g.length+24*(1+g.length)+1) W')):=fun W' v' R' N' z po no qo g hW hO' hN' hr nb hg hnm=>by
  obtain⟨k1,k2,_⟩:=Eg.cut_found hg;exact rEdge_any (Z5 hb hW) v' R' N' hO' hN' (.slice oh hs.length ch) n1 n2 n3 hs hv hn z po no qo _ hr nb g rfl k1 (Eg.cut_names hnm hg) k2
 obtain⟨zp,hzp⟩:=Zq ((Eg.zs hs).map Eg.pz);rw[hzp] at HED ⊢;obtain⟨hl,hhl⟩:=Zq hs.length;rw[hhl] at hv HED ⊢;obtain⟨FP,hFP⟩:=Zq (Eg.flawsP zp);rw[hFP];obtain⟨F,hF⟩:=Zq (Eg.zf zp);have HFP:Hid (zp.flatMap F=FP):=by show _=_;rw[<-hF,<-hFP];rfl
 have HF:=Hd hF;obtain⟨W1,hW1⟩:=Zq (W0.alloc (.cells #[.slice oh hl ch,n1,n2,n3] 35));have HB1:Hid (Below W0.heap.size W0 W1):=by show Below _ _ _;rw[<-hW1];exact Zr
 have hk0:Blk W0.heap.size #[.slice oh hl ch,n1,n2,n3] 35 W1:=by rw[<-hW1];exact Blk.new W0 _ _
 have HCN:Hid (∀W',Below W1.heap.size W1 W'->W'.cell? ⟨W0.heap.size,0,none⟩=some (.slice oh hl ch)/\W'.cell? ⟨W0.heap.size,1,none⟩=some n1/\W'.cell? ⟨W0.heap.size,2,none⟩=some n2/\W'.cell? ⟨W0.heap.size,3,none⟩=some n3):=fun W' hW=>⟨(hk0.below hW).cell 0,(hk0.below hW).cell 1,(hk0.below hW).cell 2,(hk0.below hW).cell 3⟩
 have hw1:∀{W'},Below W1.heap.size W1 W'->Below w.heap.size w W':=fun hW=>Z5 (Z5 hb HB1.out) hW
 have HWW:Hid (∀W',Below W1.heap.size W1 W'->Below w.heap.size w W'):=fun _ hW=>hw1 hW
 have HHV:=Hd hv;have HHL:=Hd hhl;have HZP:=Hd hzp;have HZ24:=Hd hz24;have H20:=Hd h20;have HNS:=Hd hns;have hl6:(hl:Int)<=6:=by omega
 have b0:=HCN.out W1 (Below.refl _ _);obtain⟨c0,c1,c2,c3⟩:=b0;clear hv hhl hzp hz24 hn h20 hns hF hFP hk0 hb hw1;refine (zF (n:=0)).1 ?_;refine callsIn_of_wp Tryz.func9 rfl trivial ?_ rfl;simp only[Tryz.ntmps9,Zo,Ze,Zg,Nat.reduceAdd,Nat.reduceSub,Zi,Zj,Zk,Zl,Zm,Zp];gi_wp2_with fail
 clear hW1
 gi_loopw [3,4] (fun u3 v4 W=>∃(i:Nat) (v3:Value),v3=u3/\v4=.int .i64 i/\i<=hl/\Hid (EgOut (w:=w) ((zp.take (Eg.off hs i)).flatMap F) (1000*Eg.off hs i) v3 W)/\Hid (Below W1.heap.size W1 W)) (fun _ v4 _=>hl-(intOf v4).toNat)
 case atStart=>exact⟨0,_,rfl,rfl,Nat.zero_le _,Hd (by rw[Eg.off_zero];exact EgOut.nil _),Hd (Below.refl _ _)⟩
 case round =>
  clear c0 c1 c2 c3;obtain⟨i,v3,rfl,rfl,hi,HOI,HBI⟩:=hrel;obtain⟨wr,rfl⟩:∃q,q=wr:=⟨_,rfl⟩;by_cases hlt:i<hl
  case neg =>
   have hlz:¬((i:Int)<(hl:Int)):=by omega
   have hoff:Eg.off hs i=zp.length:=by rw[show i=hs.length by have:=HHL.out;omega,Eg.off_all,<-HZP.out,Zf]
   have HOF:Hid (EgOut (w:=w) FP 24000 v3 wr):=by
    have h:=HOI.out;rw[hoff,List.take_length,HFP.out] at h;have hl24:zp.length<=24:=by rw[<-HZP.out,Zf];exact HZ24.out
    exact h.more (by omega)
   clear hoff HOI;obtain⟨c0,c1,c2,c3⟩:=HCN.out wr HBI.out;gi_wp2_with fail
   go_ret
   exact⟨_,rfl,HOF.out,Z5 HB1.out HBI.out⟩
  case pos =>
  have hlz:(i:Int)<(hl:Int):=by omega
  have his:i<hs.length:=by rw[HHL.out];exact hlt
  obtain⟨a,rfl,q0,q1⟩:=(HHV.out.below (HWW.out _ HBI.out)).at (by decide) i (by rw[Zf];exact his)
  obtain⟨x,hx⟩:=Zq (hs[i]);have HX:Hid (hs[i]? = some x):=by show _=_;rw[zN his,hx]
  have HXM:Hid (x∈hs):=by show _∈_;rw[<-hx];exact List.getElem_mem _
  obtain⟨oz,cz,hvz,_,_⟩:=x.hz.form;have HZR:=x.hz;rw[Zf] at hvz;obtain⟨m,hm⟩:=Zq x.zones.length;have hml:m<=4:=by rw[<-hm];exact x.len
  have hmz:(m:Int)<=4:=by omega
  rw[hm] at hvz;rw[hvz] at HZR;obtain⟨ea,hea⟩:=Zq (a.add (i*6));have HE5:Hid (∀W',Below W1.heap.size W1 W'->W'.cell? ⟨ea.block,ea.off+5,none⟩=some (.slice oz m cz)/\W'.cell? ⟨W0.heap.size,0,none⟩=some (.slice (some a) hl ch)/\W'.cell? ⟨W0.heap.size,1,none⟩=some n1/\W'.cell? ⟨W0.heap.size,2,none⟩=some n2/\W'.cell? ⟨W0.heap.size,3,none⟩=some n3):=fun W' hW=>by
   obtain⟨a',ha',p0,p1⟩:=(HHV.out.below (HWW.out _ hW)).at (by decide) i (by rw[Zf];exact his)
   cases ha';rw[List.getElem_map,hx,hea] at p0 p1;exact⟨(p1 5 (by decide) (by decide)).trans (by rw[<-hvz];rfl),HCN.out W' hW⟩
  have HZR2:=Hd HZR;have HM:=Hd hm;have HOS:Hid (Eg.off hs (i+1)=Eg.off hs i+m):=by show _=_;rw[Eg.off_succ hs i his,hx,hm]
  clear HZR hvz hm q0 q1 hx;obtain⟨y5,c0,c1,c2,c3⟩:=HE5.out wr HBI.out;gi_wp2_with fail
  gi_loopw [3,5] (fun u3 v5 W=>∃(j:Nat) (v3:Value),v3=u3/\v5=.int .i64 j/\j<=m/\Hid (EgOut (w:=w) ((zp.take (Eg.off hs i+j)).flatMap F) (1000*(Eg.off hs i+j)) v3 W)/\Hid (Below W1.heap.size W1 W)) (fun _ v5 _=>m-(intOf v5).toNat)
  case atStart=>exact⟨0,_,rfl,rfl,Nat.zero_le _,HOI,HBI⟩
  case round =>
   clear HOI HBI y5 c0 c1 c2 c3;obtain⟨j,v3,rfl,rfl,hj,HOJ,HBJ⟩:=hrel;obtain⟨wr,rfl⟩:∃q,q=wr:=⟨_,rfl⟩;obtain⟨y5,c0,c1,c2,c3⟩:=HE5.out wr HBJ.out;by_cases hlj:j<m
   case neg =>
    have hljz:¬((j:Int)<(m:Int)):=by omega
    gi_wp2_with fail
    have e:Eg.off hs (i+1)=Eg.off hs i+j:=by rw[HOS.out];omega
    refine⟨⟨i+1,_,rfl,by go_num,hlt,?_,HBJ⟩,by simp[intOf];omega⟩
    show EgOut _ _ _ _;rw[e];exact HOJ.out
   case pos =>
   have hljz:(j:Int)<(m:Int):=by omega
   have hjx:j<x.zones.length:=by rw[HM.out];exact hlj
   obtain⟨a2,rfl,r0,r1⟩:=(HZR2.out.below (HWW.out _ HBJ.out)).at (by decide) j (by rw[Zf];exact hjx)
   obtain⟨z,hz⟩:=Zq (x.zones[j]);have hzm:z∈x.zones:=by rw[<-hz];exact List.getElem_mem _
   have hz20:=H20.out x HXM.out z hzm;have HZN:=Hd (HNS.out x HXM.out z hzm);obtain⟨oo,co,or,cr,hze,hzo,hzr⟩:=ze_form z;have hpc:(Eg.zs hs)[Eg.off hs i+j]? = some (i,z):=by
    obtain⟨h1,h2⟩:=Eg.zs_at hs i j his (by
     have h:=HX.out;rw[zN his] at h;rw[Option.some.inj h];exact hjx)
    rw[zN h1,h2];have h:=HX.out;rw[zN his] at h;have h':=Option.some.inj h;subst h';rw[hz]
   have HPC:Hid (zp[Eg.off hs i+j]? = some (Eg.pz (i,z))):=by show _=_;rw[<-HZP.out,List.getElem?_map,hpc];rfl
   have HTK:Hid (zp.take (Eg.off hs i+j+1)=zp.take (Eg.off hs i+j)++[Eg.pz (i,z)]):=by
    show _=_;rw[List.take_add_one,HPC.out];rfl
   have HL24:Hid (Eg.off hs i+j<24):=by
    have h1:=(List.getElem?_eq_some_iff.1 hpc).1;have:=HZ24.out
    show _<_;omega
   obtain⟨P,hP⟩:=Zq (Eg.cutsP z.origin (plE z.recs));have HFZ:Hid (F (Eg.pz (i,z))=P.flatMap (Eg.ofP zp z.origin (plE z.recs))):=by show _=_;rw[<-HF.out,<-hP];rfl
   have hpf:P.flatten.length<=20:=by
    rw[<-hP];have h1:=Eg.cutsP_flat z.origin (plE z.recs);rw[zH] at h1;omega
   have HPN:Hid (∀g∈P,g≠[]/\NB (Eg.ownerOf g)):=fun g hg=>by
    rw[<-hP] at hg;obtain⟨k1,_,k3,_⟩:=Eg.cut_found hg;refine⟨k3,?_⟩;have hgm:∀r∈g,NB r.owner:=fun r hr=>by
     rw[<-k1] at hr;exact Rs.canon_all (p:=fun r=>NB r.owner) (fun _ _ h=>h) _ (fun y hy=>by
      obtain⟨u,_,rfl⟩:=List.mem_map.1 (List.mem_filter.1 hy).1;exact u.2.2.owner) r hr
    cases g with
    | nil=>exact absurd rfl k3
    | cons y ys=>exact hgm y Zu
   have HEZ:Hid (∀(W':World) (v':Value) (R':List PEg) (N':Nat) (po:Option Addr) (no qo:Nat) (g:List Rc.PRec),Below W0.heap.size W0 W'->EgOut (w:=w) R' N' v' W'->N'<=30000->Rd (.slice po no qo) (Eg.ownerOf g) w->g∈P->Calls Tryz.prog 31 #[v',.agg #[.slice (some a) hl ch,n1,n2,n3],.agg #[.slice oo z.origin.length co,.slice or z.recs.length cr],.slice po no qo] W' (EAddR (w:=w) (R'++Eg.ofP zp z.origin (plE z.recs) g) (N'+g.length+24*(1+g.length)+1) W')):=fun W' v' R' N' po no qo g hW hO' hN' hr hg=>by
    have h:=HED.out W' v' R' N' z po no qo g hW hO' hN' hr (HPN.out g hg).2 (by rw[hP];exact hg) HZN.out
    rwa [hze] at h
   have HCU:Hid (∀W',Below W1.heap.size W1 W'->Calls Tryz.prog 30 #[.agg #[.slice oo z.origin.length co,.slice or z.recs.length cr]] W' (RCutsR (w:=w) P W')):=fun W' hW=>by
    have h:=rCuts_any (HWW.out W' hW) z
    rwa [hze,hP] at h
   rw[List.getElem_map,hz,hze] at r0 r1;obtain⟨eb,heb⟩:=Zq (a2.add (j*2));rw[heb] at r0 r1;have d0:wr.cell? eb=some (.slice oo z.origin.length co):=r0;have d1:wr.cell? ⟨eb.block,eb.off+1,none⟩=some (.slice or z.recs.length cr):=r1 1 (by decide) (by decide)
   obtain⟨zn,hzn⟩:=Zq z.origin.length;obtain⟨zl,hzl⟩:=Zq z.recs.length;rw[hzn,hzl] at HEZ HCU;rw[hzn] at d0;rw[hzl] at d1;clear hz hzm hze hzo hzr hpc r0 r1 hzn hzl hP hz20;gi_wp2_with fail
   obtain⟨Wb,hWb⟩:=Zq (wr.alloc (.cells #[.slice oo zn co,.slice or zl cr] 66));have hkb:Blk wr.heap.size #[.slice oo zn co,.slice or zl cr] 66 Wb:=by rw[<-hWb];exact Blk.new wr _ _
   have hbb:Below wr.heap.size wr Wb:=by rw[<-hWb];exact Zr
   have HBB:=Hd (Z5 HBJ.out hbb);have HOB:=Hd (HOJ.out.below hbb);have HKB:=Hd hkb;have g0:=hkb.cell 0;have g1:=hkb.cell 1;obtain⟨zb,hzb⟩:=Zq wr.heap.size;rw[hzb] at HKB g0 g1
   try rw[hWb]
   try rw[hzb]
   clear hkb hbb y5 c0 c1 c2 c3 d0 d1 heb;refine (callsIn_wide.2 (HCU.out Wb HBB.out)).mono ?_;rintro e9 Wc ⟨ou,cu,us,rfl,hsl,⟨hul,hur⟩,b9⟩;rw[Zf] at hul;obtain⟨pl,hpl⟩:=Zq P.length;have hp20:pl<=20:=by
    rw[<-hpl];refine Nat.le_trans ?_ hpf;have h2:∀gs:List (List Rc.PRec),(∀g∈gs,g≠[])->gs.length<=gs.flatten.length:=fun gs=>by
     induction gs with
     | nil=>intro _;simp
     | cons g gs ih =>
      intro hg;have:=ih (fun x hx=>hg x (Zv _ hx))
      have h3:=List.length_pos_iff.2 (hg g Zu);rw[List.flatten_cons,Zb,Ze];omega
    exact h2 P (fun g hg=>(HPN.out g hg).1)
   have hpz:(pl:Int)<=20:=by omega
   rw[hpl] at hsl hul ⊢;have HBC:=Hd (Z5 HBB.out b9);have HOC:=Hd (HOB.out.below b9);have HSL:=Hd hsl;have HUL:=Hd hul;have HUR:Hid (∀q (h:q<us.length) (h':q<P.length),Rd us[q] (Eg.ownerOf P[q]) w):=fun q h h'=>by
    have:=hur q h (by rw[Zf];exact h')
    rwa [List.getElem_map] at this
   have HPLL:=Hd hpl;have HPF:=Hd hpf;have HKC:=Hd (HKB.out.below b9);have HSB:=Hd b9.size;clear b9 hsl hul hur hpl hpf g0 g1 HBB HOB HKB;obtain⟨y5,c0,c1,c2,c3⟩:=HE5.out Wc HBC.out;gi_wp2_with fail
   gi_loopw [3,8] (fun u3 v8 W=>∃(q:Nat) (v3:Value),v3=u3/\v8=.int .i64 q/\q<=pl/\Hid (EgOut (w:=w) ((zp.take (Eg.off hs i+j)).flatMap F++(P.take q).flatMap (Eg.ofP zp z.origin (plE z.recs))) (1000*(Eg.off hs i+j)+50*(P.take q).flatten.length) v3 W)/\Hid (Below Wc.heap.size Wc W)) (fun _ v8 _=>pl-(intOf v8).toNat)
   case atStart=>exact⟨0,_,rfl,rfl,Nat.zero_le _,by show EgOut _ _ _ _;simpa using HOC.out,Below.refl _ _⟩
   case round =>
    clear HOC y5 c0 c1 c2 c3;obtain⟨q,v3,rfl,rfl,hq,HOQ,HBQ⟩:=hrel;obtain⟨wr,rfl⟩:∃q,q=wr:=⟨_,rfl⟩;by_cases hlq:q<pl
    case neg =>
     have hlqz:¬((q:Int)<(pl:Int)):=by omega
     gi_wp2_with fail
     refine⟨⟨j+1,_,rfl,by go_num,hlj,?_,Z5 HBC.out HBQ.out⟩,by simp[intOf];omega⟩
     show EgOut _ _ _ _;rw[<-Nat.add_assoc,HTK.out,List.flatMap_append,List.flatMap_cons,List.flatMap_nil,List.append_nil,HFZ.out];have h:=HOQ.out;rw[show q=P.length by have:=HPLL.out;omega,List.take_length] at h
     exact h.more (by have:=HPF.out;omega)
    case pos =>
    have hlqz:(q:Int)<(pl:Int):=by omega
    have hqu:q<us.length:=by rw[HUL.out];exact hlq
    have hqp:q<P.length:=by rw[HPLL.out];exact hlq
    obtain⟨g,hg⟩:=Zq (P[q]);have HGM:Hid (g∈P):=by show _∈_;rw[<-hg];exact List.getElem_mem _
    have hru:=HUR.out q hqu hqp;rw[hg] at hru;obtain⟨uq,huq⟩:=Zq (us[q]);rw[huq] at hru;obtain⟨po,qo,rfl,hf1,hf2⟩:=hru.form;have HPT:Hid (P.take (q+1)=P.take q++[g]):=by show _=_;rw[Zx hqp,hg]
    obtain⟨b,rfl,hf3⟩:=HSL.out.cells Wc (Below.refl _ _) q hqu;have HCB:Hid (∀W',Below Wc.heap.size Wc W'->W'.cell? (b.add q)=some (.slice po (Eg.ownerOf g).length qo)/\W'.cell? ⟨zb,0,none⟩=some (.slice oo zn co)/\W'.cell? ⟨zb,1,none⟩=some (.slice or zl cr)/\W'.cell? ⟨W0.heap.size,0,none⟩=some (.slice (some a) hl ch)/\W'.cell? ⟨W0.heap.size,1,none⟩=some n1/\W'.cell? ⟨W0.heap.size,2,none⟩=some n2/\W'.cell? ⟨W0.heap.size,3,none⟩=some n3):=fun W' hW=>by
     obtain⟨b',hb',e⟩:=HSL.out.cells W' hW q hqu;cases hb';rw[huq] at e;exact⟨e,(HKC.out.below hW).cell 0,(HKC.out.below hW).cell 1,(HE5.out W' (Z5 HBC.out hW)).2⟩
    have HRU:=Hd hru;have HN3:Hid (1000*(Eg.off hs i+j)+50*(P.take q).flatten.length<=30000):=by
     have h1:=HL24.out;have h2:=Eg.flat_take P q;have h3:=HPF.out;show _<=_;omega
    have HGL:Hid ((P.take (q+1)).flatten.length=(P.take q).flatten.length+g.length/\0<g.length):=by
     refine⟨by rw[HPT.out];simp,List.length_pos_iff.2 (HPN.out g HGM.out).1⟩
    obtain⟨ow,how⟩:=Zq ((Eg.ownerOf g).length);rw[how] at HCB HRU;clear hf3 hqu hqp hg hru huq hf1 hf2 how;obtain⟨s0,s1,s2,s3,s4,s5,s6⟩:=HCB.out wr HBQ.out;gi_wp2_with fail
    refine Z8 [1,2,6] (fun W'=>W'.cell? (b.add q)=some (.slice po ow qo)/\W'.cell? ⟨zb,0,none⟩=some (.slice oo zn co)/\W'.cell? ⟨zb,1,none⟩=some (.slice or zl cr)/\W'.cell? ⟨W0.heap.size,0,none⟩=some (.slice (some a) hl ch)/\W'.cell? ⟨W0.heap.size,1,none⟩=some n1/\W'.cell? ⟨W0.heap.size,2,none⟩=some n2/\W'.cell? ⟨W0.heap.size,3,none⟩=some n3) 9 rfl (by kernel_rfl) ?_
    intro wa hwa;have HBA:Hid (Below Wc.heap.size Wc wa):=by subst hwa;exact HBQ.out.drew
    have HOA:Hid (EgOut (w:=w) ((zp.take (Eg.off hs i+j)).flatMap F++(P.take q).flatMap (Eg.ofP zp z.origin (plE z.recs))) (1000*(Eg.off hs i+j)+50*(P.take q).flatten.length) v3 wa):=HOQ.out.below (by subst hwa;exact (Below.refl _ _).drew)
    clear hwa s0 s1 s2 s3 s4 s5 s6;have hS:=HCB.out wa HBA.out;refine tB 0 ?_;refine tB 3 ?_;refine tB 4 ?_;refine tB 5 ?_;refine tA 1 hS ?_;refine tA 2 hS ?_;refine tA 6 hS ?_;refine oneH 7 (by rfl) (by kernel_rfl) (fun K hK=>?_)
    gi_wp2_with fail
    refine (callsIn_wide.2 (HEZ.out wa _ _ _ _ _ _ g (Z5 HB1.out (Z5 HBC.out HBA.out)) HOA.out HN3.out HRU.out HGM.out)).mono ?_;rintro e9 wb ⟨v',rfl,hO,b9⟩;have HBD:=Hd (Z5 HBA.out b9);have HOD:=Hd hO;clear hO b9;gi_wp2_with fail
    refine hK _ _ (fun _=>HCB.out wb HBD.out) ?_
    clear hK K;refine oneH 8 (by rfl) (by kernel_rfl) (fun K hK=>?_)
    gi_wp2_with fail
    refine hK _ _ (fun _=>HCB.out wb HBD.out) ?_
    clear hK K;refine Z9 (by kernel_rfl) ?_
    gi_wp2_with fail
    refine⟨⟨q+1,_,rfl,by go_num,hlq,?_,HBD⟩,by simp[intOf];omega⟩
    show EgOut _ _ _ _;rw[HPT.out,List.flatMap_append,<-List.append_assoc,<-HPT.out,HGL.out.1];have h:=HOD.out;rw[List.flatMap_cons,List.flatMap_nil,List.append_nil];exact h.more (by have:=HGL.out.2;omega)
end
end
section
namespace Eg
theorem cmp_parts {a b:PEg} (h:cmp a b=0):a.kind=b.kind/\Nm.same a.parent b.parent=true/\Nm.same a.child b.child=true/\Nm.same a.host b.host=true/\a.server=b.server:=by
 obtain⟨h1,h2⟩:=Rc.orI_zero.1 h;obtain⟨h2,h3⟩:=Rc.orI_zero.1 h2;obtain⟨h3,h4⟩:=Rc.orI_zero.1 h3;obtain⟨h4,h5⟩:=Rc.orI_zero.1 h4;have nm:∀{x y:List (List UInt8)},Nm.cmp x y=0->Nm.same x y=true:=fun {x y} h=>by
  have h4:=Nm.cmp_zero x y;rw[h] at h4;rw[<-h4];rfl
 exact⟨Rc.sgn_zero h3,nm h1,nm h2,nm h4,Rc.sgn_zero h5⟩
end Eg
set_option maxHeartbeats 8000000 in
theorem egSame_any {w1 w2 w0:World} (va vb:Value) (a:List (ElG w1)) (b:List (ElG w2)) (ha:GRd 5 va (a.map encG) w0) (hb:GRd 5 vb (b.map encG) w0) (h1:Below w1.heap.size w1 w0) (h2:Below w2.heap.size w2 w0) (hal:Eg.alike (plG a) (plG b)=true) (na:a.length<=50000) :
  Calls Tryz.prog 7 #[va,vb] w0 (Gives (.bool true) w0):=by
 obtain⟨hle,hat⟩:=Eg.alike_at hal;have hlab:b.length=a.length:=by unfold plG at hle;rw[Zf,Zf] at hle;exact hle.symm
 obtain⟨oa,ca,rfl,ha1,ha2⟩:=ha.form;obtain⟨ob,cb,rfl,hb1,hb2⟩:=hb.form;rw[Zf] at ha ha1;rw[Zf,hlab] at hb hb1;simp only[Zf];rw[hlab];have HA:=Hd ha;have HB:=Hd hb;have HAT:Hid (∀i (h:i<a.length) (h':i<b.length),Eg.cmp a[i].1.2 b[i].1.2=0):=fun i hi hi'=>by
  have h:=hat i (by unfold plG;simpa using hi) (by unfold plG;simpa using hi')
  unfold plG at h;simpa using h
 have HLB:=Hd hlab;obtain⟨n,hn⟩:=Zq a.length;have HN:=Hd hn;rw[hn] at HA HB ha1 hb1 na ⊢;have nz:(n:Int)<=50000:=by omega
 clear ha hb hal hle hat hlab hn;refine (zF (n:=0)).1 ?_;refine callsIn_of_wp Tryz.func7 rfl trivial ?_ rfl;simp only[Tryz.ntmps7,Zo,Ze,Zg,Nat.reduceAdd,Nat.reduceSub,Zi,Zj,Zk,Zl,Zm,Zp];gi_wp2_with fail
 gi_loopw [5] (fun vi W=>∃k:Nat,k<=n/\vi=.int .i64 k/\Below w0.heap.size w0 W) (fun vi _=>n-(intOf vi).toNat)
 case atStart=>exact⟨0,Nat.zero_le _,rfl,Below.refl _ _⟩
 case round =>
  obtain⟨k,hk,rfl,hbw⟩:=hrel;by_cases hlt:k<n
  case neg =>
   have hlz:¬((k:Int)<(n:Int)):=by omega
   gi_wp2_with fail
   go_ret
   exact⟨rfl,hbw⟩
  case pos =>
  have hlz:(k:Int)<(n:Int):=by omega
  have hka:k<a.length:=by rw[HN.out];exact hlt
  have hkb:k<b.length:=by rw[HLB.out,HN.out];exact hlt
  obtain⟨x,hx⟩:=Zq (a[k]);obtain⟨y,hy⟩:=Zq (b[k]);obtain⟨p0,n0,q0,p1,n1,q1,p2,n2,q2,ex,hx0,hx1,hx2⟩:=x.2.1.cells;obtain⟨r0,m0,t0,r1,m1,t1,r2,m2,t2,ey,hy0,hy1,hy2⟩:=y.2.1.cells;have hxy:=HAT.out k hka hkb;rw[hx,hy] at hxy;obtain⟨e1,e2,e3,e4,e5⟩:=Eg.cmp_parts hxy;obtain⟨ga,rfl,_⟩:=HA.out.elG5 _ (Below.refl _ _) k hka _ _ _ _ _ (by rw[hx];exact ex)
  obtain⟨gb,rfl,_⟩:=HB.out.elG5 _ (Below.refl _ _) k hkb _ _ _ _ _ (by rw[hy];exact ey)
  obtain⟨ea,hea⟩:=Zq (ga.add (k*5));obtain⟨eb,heb⟩:=Zq (gb.add (k*5));rw[<-e1,<-e5] at ey;obtain⟨kk,hkk⟩:=Zq x.1.2.kind;obtain⟨kt,hkt⟩:=Zq x.1.2.server;rw[hkk,hkt] at ex ey;have HCS:Hid (∀W',Below w0.heap.size w0 W'->Cs [(ea,Value.int .i64 kk),(⟨ea.block,ea.off+1,none⟩,.slice p0 n0 q0),(⟨ea.block,ea.off+2,none⟩,.slice p1 n1 q1),(⟨ea.block,ea.off+3,none⟩,.slice p2 n2 q2),(⟨ea.block,ea.off+4,none⟩,.int .i64 kt),(eb,Value.int .i64 kk),(⟨eb.block,eb.off+1,none⟩,.slice r0 m0 t0),(⟨eb.block,eb.off+2,none⟩,.slice r1 m1 t1),(⟨eb.block,eb.off+3,none⟩,.slice r2 m2 t2),(⟨eb.block,eb.off+4,none⟩,.int .i64 kt)] W'):=fun W' hW=>by
   obtain⟨a',ha',c0,c1,c2,c3,c4⟩:=HA.out.elG5 _ hW k hka _ _ _ _ _ (by rw[hx];exact ex)
   obtain⟨b',hb',d0,d1,d2,d3,d4⟩:=HB.out.elG5 _ hW k hkb _ _ _ _ _ (by rw[hy];exact ey)
   cases ha';cases hb';rw[hea] at c0 c1 c2 c3 c4;rw[heb] at d0 d1 d2 d3 d4;exact⟨c0,c1,c2,c3,c4,d0,d1,d2,d3,d4,trivial⟩
  have HS0:Hid (∀W',Below w0.heap.size w0 W'->Calls Tryz.prog 24 #[.slice p0 n0 q0,.slice r0 m0 t0] W' (Gives (.bool true) W')):=fun W' hW=>by
   have h:=zC _ _ x.1.2.parent y.1.2.parent W' (hx0.below (Z5 h1 hW)) (hy0.below (Z5 h2 hW)) x.2.2.parent y.2.2.parent;rw[e2] at h;exact h
  have HS1:Hid (∀W',Below w0.heap.size w0 W'->Calls Tryz.prog 24 #[.slice p1 n1 q1,.slice r1 m1 t1] W' (Gives (.bool true) W')):=fun W' hW=>by
   have h:=zC _ _ x.1.2.child y.1.2.child W' (hx1.below (Z5 h1 hW)) (hy1.below (Z5 h2 hW)) x.2.2.child y.2.2.child;rw[e3] at h;exact h
  have HS2:Hid (∀W',Below w0.heap.size w0 W'->Calls Tryz.prog 24 #[.slice p2 n2 q2,.slice r2 m2 t2] W' (Gives (.bool true) W')):=fun W' hW=>by
   have h:=zC _ _ x.1.2.host y.1.2.host W' (hx2.below (Z5 h1 hW)) (hy2.below (Z5 h2 hW)) x.2.2.host y.2.2.host;rw[e4] at h;exact h
  have HBW:=Hd hbw;clear hx hy ex ey hx0 hx1 hx2 hy0 hy1 hy2 hxy e1 e2 e3 e4 e5 hkk hkt hbw;gi_wp2_with fail
  refine Z8 (List.range 66) (Cs [(ea,Value.int .i64 kk),(⟨ea.block,ea.off+1,none⟩,.slice p0 n0 q0),(⟨ea.block,ea.off+2,none⟩,.slice p1 n1 q1),(⟨ea.block,ea.off+3,none⟩,.slice p2 n2 q2),(⟨ea.block,ea.off+4,none⟩,.int .i64 kt),(eb,Value.int .i64 kk),(⟨eb.block,eb.off+1,none⟩,.slice r0 m0 t0),(⟨eb.block,eb.off+2,none⟩,.slice r1 m1 t1),(⟨eb.block,eb.off+3,none⟩,.slice r2 m2 t2),(⟨eb.block,eb.off+4,none⟩,.int .i64 kt)]) 66 rfl (by kernel_rfl) ?_
  intro wa hwa;have HBA:Hid (Below w0.heap.size w0 wa):=by subst hwa;exact HBW.out.drew
  have hS:=HCS.out wa HBA.out;clear hwa;refine tA 0 hS ?_;refine tA 1 hS ?_;refine tA 2 hS ?_;refine tA 3 hS ?_;refine tA 4 hS ?_;refine tA 5 hS ?_;refine tA 6 hS ?_;refine tA 7 hS ?_;refine tA 8 hS ?_;refine tA 9 hS ?_;simp only[Act.put,Za,Zd,Zc];refine tA 10 hS ?_;refine tA 11 hS ?_;refine tA 12 hS ?_;refine tA 13 hS ?_;refine tA 14 hS ?_;refine tA 15 hS ?_;refine tA 16 hS ?_;refine tA 17 hS ?_;refine tA 18 hS ?_;refine tA 19 hS ?_;simp only[Act.put,Za,Zd,Zc];refine tA 20 hS ?_;refine tA 21 hS ?_;simp only[Act.put,Za,Zd,Zc];refine oneH 22 (by rfl) (by kernel_rfl) (fun K hK=>?_)
  gi_wp2_with (gi_at_call 24;refine (callsIn_wide.2 (HS0.out wa HBA.out)).mono ?_;rintro e9 wb ⟨rfl,b9⟩)
  have HBB:=Hd (Z5 HBA.out b9);replace hS:=HCS.out wb HBB.out;refine hK _ _ (fun _=>hS) ?_
  clear hK K b9;refine tA 23 hS ?_;refine tA 24 hS ?_;refine tA 25 hS ?_;refine tA 26 hS ?_;refine tA 27 hS ?_;refine tA 28 hS ?_;refine tA 29 hS ?_;refine tA 30 hS ?_;refine tA 31 hS ?_;refine tA 32 hS ?_;simp only[Act.put,Za,Zd,Zc];refine tA 33 hS ?_;refine tA 34 hS ?_;refine tA 35 hS ?_;simp only[Act.put,Za,Zd,Zc];refine oneH 36 (by rfl) (by kernel_rfl) (fun K hK=>?_)
  gi_wp2_with (gi_at_call 24;refine (callsIn_wide.2 (HS1.out wb HBB.out)).mono ?_;rintro e9 wc ⟨rfl,b9⟩)
  have HBC:=Hd (Z5 HBB.out b9);replace hS:=HCS.out wc HBC.out;refine hK _ _ (fun _=>hS) ?_
  clear hK K b9;refine tA 37 hS ?_;refine tA 38 hS ?_;refine tA 39 hS ?_;refine tA 40 hS ?_;refine tA 41 hS ?_;refine tA 42 hS ?_;refine tA 43 hS ?_;refine tA 44 hS ?_;refine tA 45 hS ?_;refine tA 46 hS ?_;simp only[Act.put,Za,Zd,Zc];refine tA 47 hS ?_;refine tA 48 hS ?_;refine tA 49 hS ?_;simp only[Act.put,Za,Zd,Zc];refine oneH 50 (by rfl) (by kernel_rfl) (fun K hK=>?_)
  gi_wp2_with (gi_at_call 24;refine (callsIn_wide.2 (HS2.out wc HBC.out)).mono ?_;rintro e9 wd ⟨rfl,b9⟩)
  have HBD:=Hd (Z5 HBC.out b9);replace hS:=HCS.out wd HBD.out;refine hK _ _ (fun _=>hS) ?_
  clear hK K b9;refine tA 51 hS ?_;refine tA 52 hS ?_;refine tA 53 hS ?_;refine tA 54 hS ?_;refine tA 55 hS ?_;refine tA 56 hS ?_;refine tA 57 hS ?_;refine tA 58 hS ?_;refine tA 59 hS ?_;refine tA 60 hS ?_;simp only[Act.put,Za,Zd,Zc];refine tA 61 hS ?_;refine tA 62 hS ?_;refine tA 63 hS ?_;refine tA 64 hS ?_;refine tA 65 hS ?_;simp only[Act.put,Za,Zd,Zc];refine Z9 (by kernel_rfl) ?_
  clear hS;gi_wp2_with fail
  exact⟨⟨k+1,hlt,by go_num,HBD.out⟩,by simp[intOf];omega⟩
end
section
set_option maxHeartbeats 1000000 in
theorem zNew9_any {w:World} (oo:Option Addr) (on oc:Nat) (v:Value) (l:List (El w)) (hv:RecsRd v (l.map (·.1)) w) (hn:l.length<=1000) :
  Calls Tryz.prog 36 #[.slice oo on oc,v] w
   fun e w'=>∃v' l',e=.returned (.agg #[.slice oo on oc,v'])/\RecsRd v' ((l':List (El w)).map (·.1)) w'/\plE l'=Rc.canon (plE l)/\l'.length<=l.length/\Below w.heap.size w w'/\(∀g,v'.ownBlock=some g->w.heap.size<=g)/\∀x∈l',∀W,(∀y∈l,RecRd y.1.1 y.1.2 W)->RecRd x.1.1 x.1.2 W:=by
 have hb0:Below w.heap.size w (w.alloc (.cells #[.slice none 0 0,.slice none 0 0] 54)):=Zr;have HC:=Hd (canon_any v (l.map (El.up hb0)) (by rw[up_fst];exact hv.kept hb0) (by simpa using hn))
 have HP:=Hd (up_pl hb0 l);clear hv hn
 go_enter Tryz.func36,Tryz.ntmps36
 go_wp2_with fail
 refine HC.out.mono ?_;rintro e w1 ⟨v',l1,rfl,r1,p1,n1,b1,fr1,el1⟩;obtain⟨l',d1,d2,d3⟩:=down_list (w:=w) l1 (fun x hx=>el1 x hx w (fun y hy=>by
  obtain⟨z,_,rfl⟩:=List.mem_map.1 hy;exact z.2.1))
 obtain⟨o',c',rfl⟩:∃o c,v'=.slice o l1.length c:=by obtain⟨_,o,c,h,_⟩:=r1;exact⟨o,c,by rw[h,Zf]⟩
 have hk:∀c,w1.cell? ⟨w.heap.size,c,none⟩=(w.alloc (.cells #[.slice none 0 0,.slice none 0 0] 54)).cell? ⟨w.heap.size,c,none⟩:=fun c=>b1.cell (p:=⟨w.heap.size,c,none⟩) (by simp)
 have hz:∀c,w1.frozen? ⟨w.heap.size,c,none⟩=(w.alloc (.cells #[.slice none 0 0,.slice none 0 0] 54)).frozen? ⟨w.heap.size,c,none⟩:=fun c=>World.frozen?_of_block (b1.block w.heap.size (by simp))
 have k0:=hk 0;have k1:=hk 1;have z0:=hz 0;have z1:=hz 1;simp at k0 k1 z0 z1;have hb1:Below w.heap.size w w1:=hb0.trans (b1.mono (by simp))
 have hb2:∀u1 u2,Below w.heap.size w ((w1.setCell ⟨w.heap.size,0,none⟩ u1).setCell ⟨w.heap.size,1,none⟩ u2):=fun u1 u2=>(hb1.setCell (Zh _) _).setCell (Zh _) _
 have hr:∀u1 u2,RecsRd (.slice o' l1.length c') (l'.map (·.1)) ((w1.setCell ⟨w.heap.size,0,none⟩ u1).setCell ⟨w.heap.size,1,none⟩ u2):=fun u1 u2=>by
  obtain⟨_,o2,c2,e1,e2,e3,e4,e5⟩:=r1;rw[Zf] at e1 e2;cases e1;refine⟨fun x hx=>?_,o',c',by rw[d1,Zf],by rw[d1,Zf];exact e2,e3,e4,fun j hj=>?_⟩
  ·obtain⟨y,_,rfl⟩:=List.mem_map.1 hx
   exact y.2.1.below (hb2 u1 u2)
  ·simp only[d1] at hj ⊢
   obtain⟨a,ha,hcell⟩:=e5 j hj;refine⟨a,ha,?_⟩;have hbl:=fr1 a.block (by rw[ha];rfl)
   have hne:(a.add j).block≠w.heap.size:=by
    have:(a.add j).block=a.block:=by unfold Addr.add;split<;>rfl
    rw[this];simp at hbl;omega
   rw[World.cell?_of_block (Below.heap_setCell _ _ _ _ hne),World.cell?_of_block (Below.heap_setCell _ _ _ _ hne)];exact hcell
 have q1:∀u1 u2,((w1.setCell ⟨w.heap.size,0,none⟩ u1).setCell ⟨w.heap.size,1,none⟩ u2).cell? ⟨w.heap.size,1,none⟩=some u2:=fun u1 u2=>World.cell?_setCell_same _ _ _ (by rw[World.cell?_setCell_other _ _ _ _ (by simp)];exact k1)
 have q0:∀u1 u2,((w1.setCell ⟨w.heap.size,0,none⟩ u1).setCell ⟨w.heap.size,1,none⟩ u2).cell? ⟨w.heap.size,0,none⟩=some u1:=fun u1 u2=>by rw[World.cell?_setCell_other _ _ _ _ (by simp)];exact World.cell?_setCell_same _ _ _ k0
 have Q:=Hd (And.intro q0 q1);have HH:=Hd (And.intro hr hb2);have HX:Hid ((∀g,(Value.slice o' l1.length c').ownBlock=some g->w.heap.size<=g)/\∀x∈l',∀W,(∀y∈l,RecRd y.1.1 y.1.2 W)->RecRd x.1.1 x.1.2 W):=⟨fun g hg=>Nat.le_of_lt (by have:=fr1 g hg;simp at this;omega),fun x hx W hW=>by
  have h1:x.1∈l1.map (·.1):=by rw[<-d1];exact List.mem_map.2 ⟨x,hx,rfl⟩
  obtain⟨y,hy,e⟩:=List.mem_map.1 h1;have h2:=el1 y hy W (fun z hz=>by
   obtain⟨u,hu,rfl⟩:=List.mem_map.1 hz;exact hW u hu)
  rw[show y.1=x.1 from e] at h2
  exact h2⟩
 have HQ:Hid (plE l'=Rc.canon (plE l)/\l'.length<=l.length):=⟨by rw[d2,p1,HP.out],by rw[d3];simpa using n1⟩
 clear r1 p1 n1 b1 hk hz fr1 el1 hr hb2 d1 d2 d3 q0 q1;go_wp2_with fail
 have q0:=Q.out.1;have q1:=Q.out.2;refine bodyPost_ret (by simp[results,Tryz.results36,go_sem,q0,q1];try rfl) rfl ?_
 exact⟨_,l',rfl,HH.out.1 _ _,HQ.out.1,HQ.out.2,HH.out.2 _ _,HX.out.1,HX.out.2⟩
theorem recs_lie {w W1 W:World} {n:Nat} {v:Value} {l:List (El w)} (h:RecsRd v (l.map (·.1)) W1) (ho:∀g,v.ownBlock=some g->n<=g) (hk:∀p:Addr,n<=p.block->∀u,W1.cell? p=some u->W.cell? p=some u) (hel:∀x∈l,RecRd x.1.1 x.1.2 W):RecsRd v (l.map (·.1)) W:=by
 obtain⟨_,o2,c2,e1,e2,e3,e4,e5⟩:=h;subst e1;refine⟨fun x hx=>?_,o2,c2,rfl,e2,e3,e4,fun j hj=>?_⟩
 ·obtain⟨y,hy,rfl⟩:=List.mem_map.1 hx
  exact hel y hy
 ·obtain⟨a,ha,hc⟩:=e5 j hj
  refine⟨a,ha,hk _ ?_ _ hc⟩;have hb:(a.add j).block=a.block:=by unfold Addr.add;split<;>rfl
  rw[hb];exact ho a.block (by rw[ha];rfl)
end
end Go.Proofs.YtgmbefolgppmdaaGreat
