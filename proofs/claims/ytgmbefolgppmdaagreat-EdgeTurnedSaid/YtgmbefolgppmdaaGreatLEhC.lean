/- The document's path, server: that they answer. -/
import Derived.Test.YtgmbefolgppmdaaGreatLEhB
import Derived.ChangeKeysEq
import Derived.Test.YtgmbefolgppmdaaGreatLReg
import Derived.Test.YtgmbefolgppmdaaGreatLAli
namespace Go.Proofs.YtgmbefolgppmdaaGreat
open Go.RowKit Go.Shelf Go.Sort
set_option maxRecDepth 100000
section
attribute [local go_sem] Oper.semAt_some
set_option maxHeartbeats 1000000 in
theorem path_any (w:World):Calls Tryz.prog 76 #[S [120]] w fun e w'=>e=.returned (.bool true)/\w=w':=by
 go_enter Tryz.func76,Tryz.ntmps76
 go_wp2_with fail
 go_loopw [3] (fun vi wr=>∃k:Nat,k<=1/\vi=.int .i64 k/\wr=w) (fun vi _=>1-(intOf vi).toNat)
 case atStart=>exact⟨0,by omega,rfl,by trivial⟩
 case round =>
  obtain⟨k,hk,rfl,rfl⟩:=hrel;by_cases hlt:k<1
  ·obtain rfl:k=0:=by omega
   go_wp2_with fail
   exact⟨⟨1,by omega,by go_num,by trivial⟩,by simp[intOf]⟩
  ·obtain rfl:k=1:=by omega
   go_wp2_with fail
   go_ret
   exact⟨rfl,rfl⟩
theorem eq4_addr (d0 d1 d2 d3 b0 b1 b2 b3:Int):∃r:Bool,∀w:World,(Op.equalIn 10000 39 (.agg #[.int .u8 d0,.int .u8 d1,.int .u8 d2,.int .u8 d3]) (.agg #[.int .u8 b0,.int .u8 b1,.int .u8 b2,.int .u8 b3])).run Tryz.prog w=.ok r w:=by
 refine⟨(d0 == b0)&&(d1 == b1)&&(d2 == b2)&&(d3 == b3),fun w=>?_⟩
 rw[run_equalIn_array (P:=Tryz.prog) (w:=w) 9999 (t:=39) (e:=5) (n:=4) (i:=_) _ _ (by rfl) (by rfl)]
 rw[show List.range 4=[0,1,2,3] from rfl,show Tryz.prog.cellsOf 5=1 by rfl]
 have hs:∀x y:Int,(Op.equalIn 9999 5 (.int .u8 x) (.int .u8 y)).run Tryz.prog w=.ok (x == y) w:=fun x y=>run_equalIn_int w 9998 5 .u8 .u8 x y (by rfl)
 by_cases h0:(d0 == b0)=true<;>by_cases h1:(d1 == b1)=true<;>by_cases h2:(d2 == b2)=true<;>by_cases h3:(d3 == b3)=true <;>
  ((try simp only[Bool.not_eq_true] at h0 h1 h2 h3);simp[Op.eqItems,h0,h1,h2,h3,go_sem])
section
variable {w:World}
set_option maxHeartbeats 8000000 in
theorem server_any {w0:World} (hb0:Below w.heap.size w w0) (ss:List (SvE w)) (vs:Value) (ro:Option Addr) (rl rc:Nat) (r1 r2:Int) (hc:CfC 128 ss vs w0) (hs6:ss.length<=6) (hp:∀s∈ss,s.pls.length<=4) (hN:∀s∈ss,NB s.name) (hO:∀s∈ss,∀p∈s.pls,NB p.2) (i:Nat) (hi:i<ss.length) :
  Calls Tryz.prog 47 #[.agg #[vs,.slice ro rl rc,.int .i64 r1,.int .i64 r2],.int .i64 (i:Int)] w0 (Ints w0):=by
 obtain⟨os,cs,rfl⟩:=hc.form;obtain⟨sl,hsl⟩:=Zq ss.length;rw[hsl] at hc ⊢;obtain⟨a,oz,cz,rfl,hz,hcell⟩:=hc.at i hi;obtain⟨s,hs⟩:=Zq (ss[i]);rw[hs] at hz hcell;have hsm:s∈ss:=by rw[<-hs];exact List.getElem_mem _
 have hpl:s.pls.length<=4:=hp s hsm;have HNS:=Hd (hN s hsm);have HOS:=Hd (hO s hsm);obtain⟨pl,hpl'⟩:∃n,s.pls.length=n:=⟨_,rfl⟩;rw[hpl'] at hz hcell hpl;have hrd:=s.hn;obtain⟨on,cn,hvn,hf1,hf2⟩:=s.hn.form;rw[hvn] at hcell hrd;obtain⟨nl,hnl⟩:=Zq s.name.length;rw[hnl] at hcell hvn hrd;obtain⟨b0,hb0'⟩:∃b,s.a0=b:=⟨_,rfl⟩;obtain⟨b1,hb1'⟩:∃b,s.a1=b:=⟨_,rfl⟩;obtain⟨b2,hb2'⟩:∃b,s.a2=b:=⟨_,rfl⟩;obtain⟨b3,hb3'⟩:∃b,s.a3=b:=⟨_,rfl⟩;rw[hb0',hb1',hb2',hb3'] at hcell;obtain⟨ea,hea⟩:=Zq (a.add (i*6));rw[hea] at hcell;obtain⟨W1,hW1⟩:=Zq (w0.alloc (.cells #[.slice (some a) sl cs,.slice ro rl rc,.int .i64 r1,.int .i64 r2] 75));obtain⟨W2,hW2⟩:=Zq (W1.alloc (.cells #[.slice on nl cn,.int .u8 b0,.int .u8 b1,.int .u8 b2,.int .u8 b3,.slice oz pl cz] 126));have s1:W1.heap.size=w0.heap.size+1:=by rw[<-hW1];simp
 have hb1:Below w0.heap.size w0 W1:=by rw[<-hW1];exact Zr
 have hb12:Below W1.heap.size W1 W2:=by rw[<-hW2];exact Zr
 have k0:Blk w0.heap.size #[.slice (some a) sl cs,.slice ro rl rc,.int .i64 r1,.int .i64 r2] 75 W1:=by rw[<-hW1];exact Blk.new w0 _ _
 have k1:Blk (w0.heap.size+1) #[.slice on nl cn,.int .u8 b0,.int .u8 b1,.int .u8 b2,.int .u8 b3,.slice oz pl cz] 126 W2:=by
  have:=Blk.new W1 #[.slice on nl cn,.int .u8 b0,.int .u8 b1,.int .u8 b2,.int .u8 b3,.slice oz pl cz] 126
  rwa [hW2,s1] at this
 have HB2:Hid (Below w0.heap.size w0 W2):=Z5 hb1 hb12;have HCZ:Hid (∀W',Below W2.heap.size W2 W'->W'.cell? ⟨w0.heap.size,0,none⟩=some (.slice (some a) sl cs)/\W'.cell? ⟨w0.heap.size+1,0,none⟩=some (.slice on nl cn)/\W'.cell? ⟨w0.heap.size+1,1,none⟩=some (.int .u8 b0)/\W'.cell? ⟨w0.heap.size+1,2,none⟩=some (.int .u8 b1)/\W'.cell? ⟨w0.heap.size+1,3,none⟩=some (.int .u8 b2)/\W'.cell? ⟨w0.heap.size+1,4,none⟩=some (.int .u8 b3)/\W'.cell? ⟨w0.heap.size+1,5,none⟩=some (.slice oz pl cz)):=fun W' hW =>
  ⟨((k0.below hb12).below hW).cell 0,(k1.below hW).cell 0,(k1.below hW).cell 1,(k1.below hW).cell 2,(k1.below hW).cell 3,(k1.below hW).cell 4,(k1.below hW).cell 5⟩
 have HWW:Hid (∀W',Below W2.heap.size W2 W'->Below w.heap.size w W'):=fun W' hW=>Z5 (Z5 hb0 HB2.out) hW
 have HC:=Hd hc;have HZ:=Hd hz;have HSL:=Hd hsl;have HN:=Hd hN;have HPL:=Hd hpl';have HRD:=Hd hrd;have HIL:Hid (i<sl):=by show _<_;omega
 have HCK:Hid (∀W' (v:Value) (n:List (List UInt8)),Below W2.heap.size W2 W'->Rd v n w->NB n->Calls Tryz.prog 70 #[v] W' (Gives (.int .i64 (Nm.check n)) W')):=fun W' v n hW hr nb=>zB _ _ _ (hr.below (HWW.out W' hW)) nb
 have n1:(sl:Int)<=6:=by omega
 have n2:(pl:Int)<=4:=by omega
 have n3:(i:Int)<(sl:Int):=by omega
 obtain⟨e0,e1,e2,e3,e4,e5⟩:=hcell W1 hb1;have y0:W1.cell? ⟨w0.heap.size,0,none⟩=some (.slice (some a) sl cs):=k0.cell 0;obtain⟨z0,z1,z2,z3,z4,z5,z6⟩:=HCZ.out W2 (Below.refl _ _);clear hc hz hs hcell hsm hrd hvn hf1 hf2 hnl hb0' hb1' hb2' hb3' hb0 hb1 hb12 k0 k1 hsl hN hpl' hO hp hs6;refine (zF (n:=0)).1 ?_;refine callsIn_of_wp Tryz.func47 rfl trivial ?_ rfl;simp only[Tryz.ntmps47,Zo,Ze,Zg,Nat.reduceAdd,Nat.reduceSub,Zi,Zj,Zk,Zl,Zm,Zp];gi_wp2_with fail
 clear hW1 hW2 e0 e1 e2 e3 e4 e5 y0;refine (callsIn_wide.2 (HCK.out W2 _ s.name (Below.refl _ _) HRD.out HNS.out)).mono ?_;rintro e9 W3 ⟨rfl,b9⟩;obtain⟨zc,hzc⟩:=Zq (Nm.check s.name);rw[hzc];have HB3:=Hd b9;clear b9 hzc z0 z1 z2 z3 z4 z5 z6;by_cases hzc0:zc=0
 case neg =>
  have g1:(zc != 0)=true:=by simpa using hzc0
  have g2:decide (zc=0)=false:=by simpa using hzc0
  gi_wp2_with fail
  go_ret
  exact⟨_,rfl,Z5 HB2.out HB3.out⟩
 case pos =>
 subst hzc0;gi_wp2_with fail
 gi_loopw [7] (fun vk W=>∃k:Nat,k<=i/\vk=.int .i64 k/\Hid (Below W2.heap.size W2 W)) (fun vk _=>i-(intOf vk).toNat)
 case atStart=>exact⟨0,Nat.zero_le _,rfl,HB3⟩
 case round =>
  clear HB3;obtain⟨k,hk,rfl,HBK⟩:=hrel;obtain⟨wr,rfl⟩:∃q,q=wr:=⟨_,rfl⟩;by_cases hlt:k<i
  case neg =>
   have hlz:¬((k:Int)<(i:Int)):=by omega
   obtain⟨z0,z1,z2,z3,z4,z5,z6⟩:=HCZ.out wr HBK.out;have g3:¬(16:Int)<(pl:Int):=by omega
   have g5:decide ((16:Int)<(pl:Int))=false:=zL g3;have g7:decide (16<pl)=false:=zL (by omega)
   gi_wp2_with fail
   gi_loopw [6,8] (fun u6 vk W=>∃(q:Nat) (u:Value),u=u6/\q<=pl/\vk=.int .i64 q/\Hid (Below W2.heap.size W2 W)) (fun _ vk _=>pl-(intOf vk).toNat)
   case atStart=>exact⟨0,_,rfl,Nat.zero_le _,rfl,HBK⟩
   case round =>
    clear HBK z0 z1 z2 z3 z4 z5 z6 g3 g5 g7;obtain⟨q,u,rfl,hq,rfl,HBQ⟩:=hrel;obtain⟨wr,rfl⟩:∃q,q=wr:=⟨_,rfl⟩;obtain⟨z0,z1,z2,z3,z4,z5,z6⟩:=HCZ.out wr HBQ.out;by_cases hlq:q<pl
    case neg =>
     have hlqz:¬((q:Int)<(pl:Int)):=by omega
     gi_wp2_with fail
     go_ret
     exact⟨_,rfl,Z5 HB2.out HBQ.out⟩
    case pos =>
    have hlqz:(q:Int)<(pl:Int):=by omega
    have hqp:q<s.pls.length:=by rw[HPL.out];exact hlq
    obtain⟨b,rfl,hpc⟩:=pl_at HZ.out q hqp;obtain⟨p,hp⟩:=Zq (s.pls[q]);have hpm:p∈s.pls:=by rw[<-hp];exact List.getElem_mem _
    have hpr:=s.hp p hpm;have NBP:=Hd (HOS.out p hpm);rw[hp] at hpc;obtain⟨op,cp,hvp,hg1,hg2⟩:=hpr.form;obtain⟨np,hnp⟩:=Zq p.2.length;rw[hvp,hnp] at hpc hpr;obtain⟨eb,heb⟩:=Zq (b.add (q*2));rw[heb] at hpc;have HPC:=Hd hpc;have HPR:=Hd hpr;obtain⟨t0,t1⟩:=hpc wr (Z5 HB2.out HBQ.out);clear hp hpm hpr hpc hvp hg1 hg2 hnp;gi_wp2_with fail
    refine (callsIn_wide.2 (HCK.out wr _ p.2 HBQ.out HPR.out NBP.out)).mono ?_;rintro e9 wa ⟨rfl,b9⟩;obtain⟨zc,hzc⟩:=Zq (Nm.check p.2);rw[hzc];have HBA:=Hd (Z5 HBQ.out b9);clear b9 hzc z0 z1 z2 z3 z4 z5 z6 t0 t1;by_cases hzc0:zc=0
    case neg =>
     have g1:(zc != 0)=true:=by simpa using hzc0
     have g2:decide (zc=0)=false:=by simpa using hzc0
     gi_wp2_with fail
     go_ret
     exact⟨_,rfl,Z5 HB2.out HBA.out⟩
    case pos =>
    subst hzc0;obtain⟨z0,z1,z2,z3,z4,z5,z6⟩:=HCZ.out wa HBA.out;obtain⟨t0,t1⟩:=HPC.out wa (Z5 HB2.out HBA.out);gi_wp2_with fail
    refine (callsIn_wide.2 (path_any wa)).mono ?_;rintro e9 wb ⟨rfl,rfl⟩;gi_wp2_with fail
    clear z0 z1 z2 z3 z4 z5 z6 t0 t1
    gi_loopw [9] (fun vk W=>∃k:Nat,k<=q/\vk=.int .i64 k/\Hid (Below W2.heap.size W2 W)) (fun vk _=>q-(intOf vk).toNat)
    case atStart=>exact⟨0,Nat.zero_le _,rfl,HBA⟩
    case round =>
     clear HBA;obtain⟨m,hm,rfl,HBM⟩:=hrel;obtain⟨wr,rfl⟩:∃q,q=wr:=⟨_,rfl⟩;by_cases hlm:m<q
     case neg =>
      have hlmz:¬((m:Int)<(q:Int)):=by omega
      gi_wp2_with fail
      exact⟨⟨q+1,_,rfl,hlq,by go_num,HBM⟩,by simp[intOf];omega⟩
     case pos =>
     have hlmz:(m:Int)<(q:Int):=by omega
     have hmp:m<s.pls.length:=by rw[HPL.out];omega
     have hmpz:(m:Int)<(pl:Int):=by omega
     obtain⟨b',hbe,hpc⟩:=pl_at HZ.out m hmp;cases hbe;obtain⟨p',hp⟩:∃p,s.pls[m]=p:=⟨_,rfl⟩;have hpm:p'∈s.pls:=by rw[<-hp];exact List.getElem_mem _
     have hpr:=s.hp p' hpm;have nbp:=HOS.out p' hpm;rw[hp] at hpc;obtain⟨om,cm,hvp,hg1,hg2⟩:=hpr.form;obtain⟨ml,hnp⟩:=Zq p'.2.length;rw[hvp,hnp] at hpc hpr;obtain⟨ec,hec⟩:=Zq (b.add (m*2));rw[hec] at hpc;obtain⟨bb,hbb⟩:=Zq (Nm.same p'.2 p.2);have HSM:Hid (∀W',Below W2.heap.size W2 W'->Calls Tryz.prog 24 #[.slice om ml cm,.slice op np cp] W' (Gives (.bool bb) W')):=fun W' hW=>by
      have h:=zC (.slice om ml cm) (.slice op np cp) p'.2 p.2 W' (hpr.below (HWW.out W' hW)) (HPR.out.below (HWW.out W' hW)) nbp NBP.out
      rwa [hbb] at h
     have HCS:Hid (∀W',Below W2.heap.size W2 W'->Cs [(⟨w0.heap.size+1,5,none⟩,.slice (some b) pl cz),(eb,.slice op np cp),(ec,.slice om ml cm)] W'):=fun W' hW =>
      ⟨(HCZ.out W' hW).2.2.2.2.2.2,(HPC.out W' (Z5 HB2.out hW)).1,(hpc W' (Z5 HB2.out hW)).1,trivial⟩
     clear hp hpm hpr hpc hvp hg1 hg2 hnp nbp hbb;obtain⟨x0,x1,x2,_⟩:=HCS.out wr HBM.out;gi_wp2_with fail
     refine Z8 [1,4,5,7,9,10,11,12] (Cs [(⟨w0.heap.size+1,5,none⟩,.slice (some b) pl cz),(eb,.slice op np cp),(ec,.slice om ml cm)]) 13 rfl (by kernel_rfl) ?_
     intro wa hwa;have HBA:Hid (Below W2.heap.size W2 wa):=by subst hwa;exact HBM.out.drew
     have hS:=HCS.out wa HBA.out;clear hwa x0 x1 x2;refine tB 0 ?_;refine tB 2 ?_;refine tB 6 ?_;refine tB 8 ?_;refine tA 1 hS ?_;refine tB 3 ?_;refine tA 4 hS ?_;refine tA 7 hS ?_;refine tA 9 hS ?_;refine tA 10 hS ?_;refine tA 5 hS ?_;refine tA 11 hS ?_;simp only[Act.put,Za,Zd,Zc];refine oneH 12 (by rfl) (by kernel_rfl) (fun K hK=>?_)
     gi_wp2_with fail
     refine (callsIn_wide.2 (HSM.out wa HBA.out)).mono ?_;rintro e9 wb ⟨rfl,b9⟩;have HBB:=Hd (Z5 HBA.out b9);clear b9;gi_wp2_with fail
     refine hK _ _ (fun _=>HCS.out wb HBB.out) ?_
     clear hK K hS;refine Z9 (by kernel_rfl) ?_
     cases bb with
     | true =>
      gi_wp2_with fail
      go_ret
      exact⟨_,rfl,Z5 HB2.out HBB.out⟩
     | false =>
      gi_wp2_with fail
      exact⟨⟨m+1,hlm,by go_num,HBB⟩,by simp[intOf];omega⟩
  case pos =>
  have hlz:(k:Int)<(i:Int):=by omega
  have hkl:(k:Int)<(sl:Int):=by omega
  have hks:k<ss.length:=by rw[HSL.out];have:=HIL.out;omega
  obtain⟨a',oz',cz',hae,_,hcell⟩:=HC.out.at k hks;cases hae;obtain⟨t,ht⟩:=Zq (ss[k]);rw[ht] at hcell;have nbt:=HN.out t (by rw[<-ht];exact List.getElem_mem _)
  obtain⟨om,cm,hvm,hg1,hg2⟩:=t.hn.form;have htr:=t.hn;obtain⟨ml,hml⟩:=Zq t.name.length;rw[hvm,hml] at hcell htr;obtain⟨d0,hd0⟩:=Zq t.a0;obtain⟨d1,hd1⟩:=Zq t.a1;obtain⟨d2,hd2⟩:=Zq t.a2;obtain⟨d3,hd3⟩:=Zq t.a3;rw[hd0,hd1,hd2,hd3] at hcell;obtain⟨eb,heb⟩:=Zq (a.add (k*6));rw[heb] at hcell;obtain⟨bb,hbb⟩:=Zq (Nm.same t.name s.name);have HSM:Hid (∀W',Below W2.heap.size W2 W'->Calls Tryz.prog 24 #[.slice om ml cm,.slice on nl cn] W' (Gives (.bool bb) W')):=fun W' hW=>by
   have h:=zC (.slice om ml cm) (.slice on nl cn) t.name s.name W' (htr.below (HWW.out W' hW)) (HRD.out.below (HWW.out W' hW)) nbt HNS.out
   rwa [hbb] at h
  have HCS:Hid (∀W',Below W2.heap.size W2 W'->Cs [(⟨w0.heap.size,0,none⟩,.slice (some a) sl cs),(⟨w0.heap.size+1,0,none⟩,.slice on nl cn),(⟨w0.heap.size+1,1,none⟩,.int .u8 b0),(⟨w0.heap.size+1,2,none⟩,.int .u8 b1),(⟨w0.heap.size+1,3,none⟩,.int .u8 b2),(⟨w0.heap.size+1,4,none⟩,.int .u8 b3),(eb,.slice om ml cm),(⟨eb.block,eb.off+1,none⟩,.int .u8 d0),(⟨eb.block,eb.off+2,none⟩,.int .u8 d1),(⟨eb.block,eb.off+3,none⟩,.int .u8 d2),(⟨eb.block,eb.off+4,none⟩,.int .u8 d3)] W'):=fun W' hW=>by
   obtain⟨z0,z1,z2,z3,z4,z5,z6⟩:=HCZ.out W' hW;obtain⟨e0,e1,e2,e3,e4,e5⟩:=hcell W' (Z5 HB2.out hW);exact⟨z0,z1,z2,z3,z4,z5,e0,e1,e2,e3,e4,trivial⟩
  clear ht hcell nbt hvm hg1 hg2 htr hml hd0 hd1 hd2 hd3 hbb;obtain⟨x0,x1,x2,x3,x4,x5,x6,x7,x8,x9,x10,_⟩:=HCS.out wr HBK.out;gi_wp2_with fail
  refine Z8 [1,4,5,7,8,9,10,11,12,13,14,15,16,17,18,19] (Cs [(⟨w0.heap.size,0,none⟩,.slice (some a) sl cs),(⟨w0.heap.size+1,0,none⟩,.slice on nl cn),(⟨w0.heap.size+1,1,none⟩,.int .u8 b0),(⟨w0.heap.size+1,2,none⟩,.int .u8 b1),(⟨w0.heap.size+1,3,none⟩,.int .u8 b2),(⟨w0.heap.size+1,4,none⟩,.int .u8 b3),(eb,.slice om ml cm),(⟨eb.block,eb.off+1,none⟩,.int .u8 d0),(⟨eb.block,eb.off+2,none⟩,.int .u8 d1),(⟨eb.block,eb.off+3,none⟩,.int .u8 d2),(⟨eb.block,eb.off+4,none⟩,.int .u8 d3)]) 20 rfl (by kernel_rfl) ?_
  intro wa hwa;have HBA:Hid (Below W2.heap.size W2 wa):=by subst hwa;exact HBK.out.drew
  have hS:=HCS.out wa HBA.out;clear hwa x0 x1 x2 x3 x4 x5 x6 x7 x8 x9 x10;refine tB 0 ?_;refine tB 2 ?_;refine tB 6 ?_;refine tA 1 hS ?_;refine tB 3 ?_;refine tA 4 hS ?_;refine tA 5 hS ?_;refine tA 7 hS ?_;simp only[Act.put,Za,Zd,Zc];refine oneH 8 (by rfl) (by kernel_rfl) (fun K hK=>?_)
  gi_wp2_with fail
  refine (callsIn_wide.2 (HSM.out wa HBA.out)).mono ?_;rintro e9 wb ⟨rfl,b9⟩;have HBB:=Hd (Z5 HBA.out b9);clear b9;gi_wp2_with fail
  refine hK _ _ (fun _=>HCS.out wb HBB.out) ?_
  clear hK K;replace hS:=HCS.out wb HBB.out;cases bb with
  | true =>
   refine tA 9 hS ?_;simp only[Act.put,Za,Zd,Zc];refine tU 10 hS ?_;refine tU 11 hS ?_;refine tU 12 hS ?_;refine tU 13 hS ?_;refine tU 14 hS ?_;refine tU 15 hS ?_;refine tU 16 hS ?_;refine tU 17 hS ?_;refine tU 18 hS ?_;refine tA 19 hS ?_;simp only[Act.put,Za,Zd,Zc];refine Z9 (by kernel_rfl) ?_
   clear hS;gi_wp2_with fail
   go_ret
   exact⟨_,rfl,Z5 HB2.out HBB.out⟩
  | false =>
   refine tA 9 hS ?_;refine tA 10 hS ?_;refine tA 12 hS ?_;refine tA 16 hS ?_;refine tA 11 hS ?_;refine tA 13 hS ?_;refine tA 14 hS ?_;refine tA 15 hS ?_;refine tA 17 hS ?_;simp only[Act.put,Za,Zd,Zc];obtain⟨r,hr⟩:=eq4_addr d0 d1 d2 d3 b0 b1 b2 b3;refine takeH 18 (v:=.bool r) (fun _=>trivial) (by rfl) (by kernel_rfl) hS (.inl ⟨by kernel_rfl,fun w1 ⟨x0,x1,x2,x3,x4,x5,x6,x7,x8,x9,x10,_⟩=>?ufy18⟩) ?_
   case ufy18=>go_simp
   clear hr;simp only[Act.put,Za,Zd,Zc];refine tA 19 hS ?_;simp only[Act.put,Za,Zd,Zc];refine Z9 (by kernel_rfl) ?_
   clear hS;cases r with
   | true =>
    gi_wp2_with fail
    go_ret
    exact⟨_,rfl,Z5 HB2.out HBB.out⟩
   | false =>
    gi_wp2_with fail
    exact⟨⟨k+1,hlt,by go_num,HBB⟩,by simp[intOf];omega⟩
end
end
section
attribute [local go_sem] Oper.semAt_some
def Ints22 (w:World) (e:Ending) (w':World):Prop:=∃a b:Int,e=.returned (.tuple #[.int .i64 a,.int .i64 b])/\Below w.heap.size w w'
section
variable {w:World}
theorem roots_at {o:Option Addr} {n cap:Nat} {rs:List Int} {W:World} (h:GRd 1 (.slice o n cap) (rs.map fun z=>[.int .i64 z]) W) (i:Nat) (hi:i<rs.length):∃a,o=some a/\∀W',Below W.heap.size W W'->W'.cell? (a.add i)=some (.int .i64 rs[i]):=by
 have hi':i<(rs.map fun z=>[Value.int .i64 z]).length:=by rw[Zf];exact hi
 obtain⟨a,rfl,_⟩:=h.at (by decide) i hi'
 refine⟨a,rfl,fun W' hW=>?_⟩
 obtain⟨a',ha,q0,_⟩:=(h.below hW).at (by decide) i hi'
 cases ha;rw[List.getElem_map,Nat.mul_one] at q0;exact q0
set_option maxHeartbeats 8000000 in
theorem checkConf_any {w0:World} (hb0:Below w.heap.size w w0) (ss:List (SvE w)) (vs:Value) (ro:Option Addr) (rl rc:Nat) (rs:List Int) (r1 r2:Int) (hc:CfC 128 ss vs w0) (hr:GRd 1 (.slice ro rl rc) (rs.map fun z=>[.int .i64 z]) w0) (hs1:1<=ss.length) (hs6:ss.length<=6) (hr1:1<=rs.length) (hr4:rs.length<=4) (h1:0<=r1/\r1<=4) (h2:0<=r2/\r2<=6)
  (hp:∀s∈ss,s.pls.length<=4) (hN:∀s∈ss,NB s.name) (hO:∀s∈ss,∀p∈s.pls,NB p.2) :
  Calls Tryz.prog 22 #[.agg #[vs,.slice ro rl rc,.int .i64 r1,.int .i64 r2]] w0 (Ints22 w0):=by
 obtain⟨os,cs,rfl⟩:=hc.form;have hrl:rl=rs.length:=by obtain⟨_,_,e,_⟩:=hr.form;rw[Zf] at e;injection e
 have HSV:Hid (∀(W':World) (i:Nat),Below w0.heap.size w0 W'->i<ss.length->Calls Tryz.prog 47 #[.agg #[.slice os ss.length cs,.slice ro rl rc,.int .i64 r1,.int .i64 r2],.int .i64 (i:Int)] W' (Ints W')):=fun W' i hW hi=>server_any (Z5 hb0 hW) ss _ ro rl rc r1 r2 (hc.below hW) hs6 hp hN hO i hi
 obtain⟨sl,hsl⟩:=Zq ss.length;rw[hsl] at HSV hs1 hs6 hc ⊢;obtain⟨W1,hW1⟩:=Zq (w0.alloc (.cells #[.slice os sl cs,.slice ro rl rc,.int .i64 r1,.int .i64 r2] 75));have HB1:Hid (Below w0.heap.size w0 W1):=by show Below _ _ _;rw[<-hW1];exact Zr
 have k0:Blk w0.heap.size #[.slice os sl cs,.slice ro rl rc,.int .i64 r1,.int .i64 r2] 75 W1:=by rw[<-hW1];exact Blk.new w0 _ _
 have HCZ:Hid (∀W',Below W1.heap.size W1 W'->W'.cell? ⟨w0.heap.size,0,none⟩=some (.slice os sl cs)/\W'.cell? ⟨w0.heap.size,1,none⟩=some (.slice ro rl rc)/\W'.cell? ⟨w0.heap.size,2,none⟩=some (.int .i64 r1)/\W'.cell? ⟨w0.heap.size,3,none⟩=some (.int .i64 r2)):=fun W' hW=>⟨(k0.below hW).cell 0,(k0.below hW).cell 1,(k0.below hW).cell 2,(k0.below hW).cell 3⟩
 have HR:=Hd hr;have HRL:=Hd hrl;obtain⟨h1a,h1b⟩:=h1;obtain⟨h2a,h2b⟩:=h2;have e1:((sl:Int) == 0)=false:=by simp;omega
 have e2:decide ((sl:Int)=0)=false:=by simp;omega
 have e2':decide (sl=0)=false:=by simp;omega
 have e3:((rl:Int) == 0)=false:=by simp;omega
 have e4:decide ((rl:Int)=0)=false:=by simp;omega
 have e4':decide (rl=0)=false:=by simp;omega
 have e5:decide ((16:Int)<(sl:Int))=false:=by simp;omega
 have e5':decide (16<sl)=false:=by simp;omega
 have e6:decide (r1<0)=false:=by simp;omega
 have e7:decide (8<r1)=false:=by simp;omega
 have e8:decide (r2<0)=false:=by simp;omega
 have e9:decide (16<r2)=false:=by simp;omega
 have n1:(sl:Int)<=6:=by omega
 have n2:(rl:Int)<=4:=by omega
 obtain⟨z0,z1,z2,z3⟩:=HCZ.out W1 (Below.refl _ _);clear hc hr k0 hb0 hN hO hp hrl;refine (zF (n:=0)).1 ?_;refine callsIn_of_wp Tryz.func22 rfl trivial ?_ rfl;simp only[Tryz.ntmps22,Zo,Ze,Zg,Nat.reduceAdd,Nat.reduceSub,Zi,Zj,Zk,Zl,Zm,Zp];gi_wp2_with fail
 clear hW1 e1 e2 e2' e3 e4 e4' e5 e5' e6 e7 e8 e9 z0 z1 z2 z3
 gi_loopw [4] (fun vi W=>∃i:Nat,i<=rl/\vi=.int .i64 i/\Hid (Below W1.heap.size W1 W)) (fun vi _=>rl-(intOf vi).toNat)
 case atStart=>exact⟨0,Nat.zero_le _,rfl,Below.refl _ _⟩
 case round =>
  obtain⟨i,hi,rfl,HBI⟩:=hrel;obtain⟨wr,rfl⟩:∃q,q=wr:=⟨_,rfl⟩;obtain⟨z0,z1,z2,z3⟩:=HCZ.out wr HBI.out;by_cases hlt:i<rl
  case neg =>
   have hlz:¬((i:Int)<(rl:Int)):=by omega
   gi_wp2_with fail
   clear z0 z1 z2 z3
   gi_loopw [5] (fun vi W=>∃i:Nat,i<=rl/\vi=.int .i64 i/\Hid (Below W1.heap.size W1 W)) (fun vi _=>rl-(intOf vi).toNat)
   case atStart=>exact⟨0,Nat.zero_le _,rfl,HBI⟩
   case round =>
    clear HBI hlz hlt;obtain⟨p,hp,rfl,HBP⟩:=hrel;obtain⟨wr,rfl⟩:∃q,q=wr:=⟨_,rfl⟩;obtain⟨z0,z1,z2,z3⟩:=HCZ.out wr HBP.out;by_cases hlt:p<rl
    case neg =>
     have hlz:¬((p:Int)<(rl:Int)):=by omega
     gi_wp2_with fail
     clear z0 z1 z2 z3
     gi_loopw [7,8] (fun vi u8 W=>∃(i:Nat) (u:Value),u=u8/\i<=sl/\vi=.int .i64 i/\Hid (Below W1.heap.size W1 W)) (fun vi _ _=>sl-(intOf vi).toNat)
     case atStart=>exact⟨0,_,rfl,Nat.zero_le _,rfl,HBP⟩
     case round =>
      clear HBP hlz hlt;obtain⟨q,u,rfl,hq,rfl,HBQ⟩:=hrel;obtain⟨wr,rfl⟩:∃q,q=wr:=⟨_,rfl⟩;obtain⟨z0,z1,z2,z3⟩:=HCZ.out wr HBQ.out;by_cases hlt:q<sl
      case neg =>
       have hlz:¬((q:Int)<(sl:Int)):=by omega
       gi_wp2_with fail
       refine bodyPost_ret (results_tmp2 rfl _ _ _) rfl ?_;exact⟨_,_,rfl,Z5 HB1.out HBQ.out⟩
      case pos =>
      have hlz:(q:Int)<(sl:Int):=by omega
      gi_wp2_with fail
      refine (callsIn_wide.2 (HSV.out wr q (Z5 HB1.out HBQ.out) hlt)).mono ?_;rintro e9 wa ⟨zz,rfl,b9⟩;have HBA:=Hd (Z5 HBQ.out b9);clear b9 z0 z1 z2 z3;by_cases hz:zz=0
      case neg =>
       have g1:(zz != 0)=true:=by simpa using hz
       have g2:decide (zz=0)=false:=by simpa using hz
       gi_wp2_with fail
       refine bodyPost_ret (results_tmp2 rfl _ _ _) rfl ?_;exact⟨_,_,rfl,Z5 HB1.out HBA.out⟩
      case pos =>
      subst hz;gi_wp2_with fail
      exact⟨⟨q+1,_,rfl,hlt,by go_num,HBA⟩,by simp[intOf];omega⟩
    case pos =>
    have hlz:(p:Int)<(rl:Int):=by omega
    gi_wp2_with fail
    clear z0 z1 z2 z3
    gi_loopw [6] (fun vi W=>∃k:Nat,k<=p/\vi=.int .i64 k/\Hid (Below W1.heap.size W1 W)) (fun vi _=>p-(intOf vi).toNat)
    case atStart=>exact⟨0,Nat.zero_le _,rfl,HBP⟩
    case round =>
     clear HBP;obtain⟨k,hk,rfl,HBK⟩:=hrel;obtain⟨wr,rfl⟩:∃q,q=wr:=⟨_,rfl⟩;by_cases hlk:k<p
     case neg =>
      have hlkz:¬((k:Int)<(p:Int)):=by omega
      gi_wp2_with fail
      exact⟨⟨p+1,hlt,by go_num,HBK⟩,by simp[intOf];omega⟩
     case pos =>
     have hlkz:(k:Int)<(p:Int):=by omega
     have hkr:(k:Int)<(rl:Int):=by omega
     obtain⟨a,rfl,hca⟩:=roots_at HR.out k (by have:=HRL.out;omega)
     obtain⟨a',hae,hcb⟩:=roots_at HR.out p (by have:=HRL.out;omega)
     cases hae;obtain⟨z,hz⟩:∃z,rs[k]'(by have:=HRL.out;omega)=z:=⟨_,rfl⟩
     obtain⟨y,hy⟩:∃z,rs[p]'(by have:=HRL.out;omega)=z:=⟨_,rfl⟩
     rw[hz] at hca;rw[hy] at hcb;obtain⟨ea,hea⟩:=Zq (a.add k);obtain⟨eb,heb⟩:=Zq (a.add p);rw[hea] at hca;rw[heb] at hcb;have HCS:Hid (∀W',Below W1.heap.size W1 W'->Cs [(⟨w0.heap.size,1,none⟩,.slice (some a) rl rc),(ea,.int .i64 z),(eb,.int .i64 y)] W'):=fun W' hW=>⟨(HCZ.out W' hW).2.1,hca W' (Z5 HB1.out hW),hcb W' (Z5 HB1.out hW),trivial⟩
     clear hca hcb hz hy;obtain⟨x0,x1,x2,_⟩:=HCS.out wr HBK.out;gi_wp2_with fail
     refine Z8 [1,4,6,8,9,10] (Cs [(⟨w0.heap.size,1,none⟩,.slice (some a) rl rc),(ea,.int .i64 z),(eb,.int .i64 y)]) 11 rfl (by kernel_rfl) ?_
     intro wa hwa;have HBA:Hid (Below W1.heap.size W1 wa):=by subst hwa;exact HBK.out.drew
     have hS:=HCS.out wa HBA.out;clear hwa x0 x1 x2;refine tB 0 ?_;refine tB 2 ?_;refine tB 5 ?_;refine tB 7 ?_;refine tA 1 hS ?_;refine tB 3 ?_;refine tA 6 hS ?_;refine tA 8 hS ?_;refine tA 4 hS ?_;refine tA 9 hS ?_;refine tA 10 hS ?_;simp only[Act.put,Za,Zd,Zc];refine Z9 (by kernel_rfl) ?_
     clear hS;by_cases hzy:z=y
     case neg =>
      have g1:(z == y)=false:=by simpa using hzy
      gi_wp2_with fail
      exact⟨⟨k+1,hlk,by go_num,HBA⟩,by simp[intOf];omega⟩
     case pos =>
     subst hzy;gi_wp2_with fail
     refine bodyPost_ret (results_tmp2 rfl _ _ _) rfl ?_;exact⟨_,_,rfl,Z5 HB1.out HBA.out⟩
  case pos =>
  have hlz:(i:Int)<(rl:Int):=by omega
  obtain⟨a,rfl,hca⟩:=roots_at HR.out i (by have:=HRL.out;omega)
  obtain⟨z,hz⟩:∃z,rs[i]'(by have:=HRL.out;omega)=z:=⟨_,rfl⟩
  rw[hz] at hca;obtain⟨ea,hea⟩:=Zq (a.add i);rw[hea] at hca;have HCS:Hid (∀W',Below W1.heap.size W1 W'->Cs [(⟨w0.heap.size,0,none⟩,.slice os sl cs),(⟨w0.heap.size,1,none⟩,.slice (some a) rl rc),(ea,.int .i64 z)] W'):=fun W' hW=>⟨(HCZ.out W' hW).1,(HCZ.out W' hW).2.1,hca W' (Z5 HB1.out hW),trivial⟩
  clear hca hz z0 z1 z2 z3;obtain⟨x0,x1,x2,_⟩:=HCS.out wr HBI.out;gi_wp2_with fail
  refine Z8 [1,4,5,6,7,8,9,10,11,12,13,14,15,16] (Cs [(⟨w0.heap.size,0,none⟩,.slice os sl cs),(⟨w0.heap.size,1,none⟩,.slice (some a) rl rc),(ea,.int .i64 z)]) 17 rfl (by kernel_rfl) ?_
  intro wa hwa;have HBA:Hid (Below W1.heap.size W1 wa):=by subst hwa;exact HBI.out.drew
  have hS:=HCS.out wa HBA.out;clear hwa x0 x1 x2;by_cases hz0:z<0
  case pos =>
   have g1:decide (z<0)=true:=zM hz0;refine tB 0 ?_;refine tB 2 ?_;refine tA 1 hS ?_;refine tB 3 ?_;refine tA 4 hS ?_;refine tA 5 hS ?_;refine tA 6 hS ?_;simp only[Act.put,Za,Zd,Zc];refine tU 7 hS ?_;refine tU 8 hS ?_;refine tU 9 hS ?_;refine tU 10 hS ?_;refine tU 11 hS ?_;refine tU 12 hS ?_;refine tU 13 hS ?_;refine tU 14 hS ?_;refine tU 15 hS ?_;refine tA 16 hS ?_;simp only[Act.put,Za,Zd,Zc];refine Z9 (by kernel_rfl) ?_
   clear hS;gi_wp2_with fail
   refine bodyPost_ret (results_tmp2 rfl _ _ _) rfl ?_;exact⟨_,_,rfl,Z5 HB1.out HBA.out⟩
  case neg =>
  have g1:decide (z<0)=false:=zL hz0;obtain⟨bg,hbg⟩:∃b,decide ((sl:Int)<=z)=b:=⟨_,rfl⟩;refine tB 0 ?_;refine tB 2 ?_;refine tA 1 hS ?_;refine tB 3 ?_;refine tA 4 hS ?_;refine tA 5 hS ?_;refine tA 6 hS ?_;refine tA 7 hS ?_;refine tA 9 hS ?_;refine tA 12 hS ?_;refine tA 8 hS ?_;refine tA 10 hS ?_;refine tA 11 hS ?_;refine tA 13 hS ?_;refine tA 14 hS ?_;refine tA 15 hS ?_;simp only[Act.put,Za,Zd,Zc]
  try rw[hbg]
  refine tA 16 hS ?_;simp only[Act.put,Za,Zd,Zc];refine Z9 (by kernel_rfl) ?_
  clear hS hbg;cases bg with
  | true =>
   gi_wp2_with fail
   refine bodyPost_ret (results_tmp2 rfl _ _ _) rfl ?_;exact⟨_,_,rfl,Z5 HB1.out HBA.out⟩
  | false =>
   gi_wp2_with fail
   exact⟨⟨i+1,hlt,by go_num,HBA⟩,by simp[intOf];omega⟩
end
end
end Go.Proofs.YtgmbefolgppmdaaGreat
