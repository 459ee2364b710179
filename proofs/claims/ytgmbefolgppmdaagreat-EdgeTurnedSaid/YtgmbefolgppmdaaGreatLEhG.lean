/- May a Net be as one that was loaded, and is it small: toponymlaw16.Good. -/
import Derived.Test.YtgmbefolgppmdaaGreatLEtC
import Derived.Test.YtgmbefolgppmdaaGreatLEhC
import Derived.Test.YtgmbefolgppmdaaGreatLEgJ
import Derived.Test.YtgmbefolgppmdaaGreatLGdE
import Derived.Test.YtgmbefolgppmdaaGreatLReg
import Derived.Test.YtgmbefolgppmdaaGreatLAli
namespace Go.Proofs.YtgmbefolgppmdaaGreat
open Go.RowKit Go.Shelf Go.Sort
set_option maxRecDepth 100000
attribute [local go_sem] Oper.semAt_some
structure ZR (w:World) where
 vo:Value
 vr:Value
 origin:List (List UInt8)
 recs:List RP
 ho:Rd vo origin w
 hr:RecsRd vr recs w
 rn:∀x∈recs,RN x.2
def encZR {w:World} (z:ZR w):List Value:=[z.vo,z.vr]
structure HR (w:World) where
 vn:Value
 a0:Int
 a1:Int
 a2:Int
 a3:Int
 vz:Value
 name:List (List UInt8)
 zones:List (ZR w)
 hn:Rd vn name w
 hz:GRd 2 vz (zones.map encZR) w
def encHR {w:World} (h:HR w):List Value:=[h.vn,.int .u8 h.a0,.int .u8 h.a1,.int .u8 h.a2,.int .u8 h.a3,h.vz]
structure GoodZ {w:World} (z:ZR w):Prop where
 good:Nm.good2 z.origin=true
 rf:RF z.recs
 ns:NSok z.recs
 len:z.recs.length<=20
def GoodH {w:World} (h:HR w):Prop:=h.zones.length<=4/\∀z∈h.zones,GoodZ z
def GoodN {w:World} (hs:List (HR w)):Prop:=hs.length<=6/\∀h∈hs,GoodH h
section
variable {w:World}
def svOf (h:HR w):SvE w:=⟨h.vn,h.a0,h.a1,h.a2,h.a3,h.name,h.zones.map fun z=>(z.vo,z.origin),h.hn,fun p hp=>by
 obtain⟨z,_,rfl⟩:=List.mem_map.1 hp;exact z.ho⟩
theorem SvC.stable {T:TypeId->Prop} {tP:TypeId} (h1:¬T tP):Stable T (SvC (w:=w) tP):=fun _ _ _ _ h hk=>h.keepTy h1 hk
theorem bd_cfc {tP tS:TypeId} {B:Nat} {ss:List (SvE w)} {css:List (List Value)} {v:Value} {W:World} (h:BdG (SvC tP) tS 6 B ss css v W):CfC tP ss v W :=
 ⟨css,Row.grd h.row (fun c hc=>by
  obtain⟨i,hi,rfl⟩:=List.mem_iff_getElem.1 hc;exact (h.el i hi (by have:=h.len;omega)).one),h.len,h.el⟩
theorem good_els {z:ZR w} (h:GoodZ z):∃L:List (El w),L.map (·.1)=z.recs/\L.length<=20:=by
 obtain⟨L,h1,_,h3⟩:=els_of z.hr h.rf z.rn;exact⟨L,h1,by rw[h3];exact h.len⟩
theorem info_cserver:(Tryz.prog.info? 60).map (fun i=>(i.zero,i.size,i.bytes))=some (some (.agg #[.slice none 0 0,.int .u8 0,.int .u8 0,.int .u8 0,.int .u8 0,.slice none 0 0]),6,56):=by kernel_rfl
theorem info_cplace:(Tryz.prog.info? 69).map (fun i=>(i.zero,i.size,i.bytes))=some (some (.agg #[.slice none 0 0,S []]),2,40):=by kernel_rfl
set_option maxHeartbeats 16000000 in
theorem good16_any {w0:World} (hb0:Below w.heap.size w w0) (hs:List (HR w)) (vh:Value) (ro:Option Addr) (rl rc:Nat) (rs:List Int) (r1 r2:Int) (hv:GRd 6 vh (hs.map encHR) w) (hr:GRd 1 (.slice ro rl rc) (rs.map fun z=>[.int .i64 z]) w) :
  Calls Tryz.prog 6 #[.agg #[vh,.slice ro rl rc,.int .i64 r1,.int .i64 r2]] w0 (Says (GoodN hs) w0):=by
 obtain⟨oh,ch,rfl,hc1,hc2⟩:=hv.form;rw[Zf] at hv hc1 ⊢;have hrl:rl=rs.length:=by obtain⟨_,_,e,_⟩:=hr.form;rw[Zf] at e;injection e
 have hrm:rs.length<=9223372036854775807:=by obtain⟨_,_,_,h1,h2⟩:=hr.form;rw[Zf] at h1;omega
 obtain⟨hl,hhl⟩:=Zq hs.length;rw[hhl] at hv hc1 ⊢;obtain⟨W1,hW1⟩:=Zq (w0.alloc (.cells #[.slice oh hl ch,.slice ro rl rc,.int .i64 r1,.int .i64 r2] 25));have HB1:Hid (Below w0.heap.size w0 W1):=by show Below _ _ _;rw[<-hW1];exact Zr
 have k0:Blk w0.heap.size #[.slice oh hl ch,.slice ro rl rc,.int .i64 r1,.int .i64 r2] 25 W1:=by rw[<-hW1];exact Blk.new w0 _ _
 have z0:W1.cell? ⟨w0.heap.size,0,none⟩=some _:=k0.cell 0;have z1:W1.cell? ⟨w0.heap.size,1,none⟩=some _:=k0.cell 1;have z2:W1.cell? ⟨w0.heap.size,2,none⟩=some _:=k0.cell 2;have z3:W1.cell? ⟨w0.heap.size,3,none⟩=some _:=k0.cell 3;have HHV:=Hd hv;have HR:=Hd hr;have HRL:=Hd hrl;have HHL:=Hd hhl;have HBW:=Hd hb0;clear hv hr hrl hhl hb0;by_cases q0:hl<1
 case pos =>
  have y0:(hl:Int)<1:=by omega
  have d0:decide ((hl:Int)<1)=true:=zM y0;have j0:decide (hl<1)=true:=zM (by omega)
  have m0:decide (hl=0)=true:=zM (by omega)
  refine (zF (n:=0)).1 ?_;refine callsIn_of_wp Tryz.func6 rfl trivial ?_ rfl;simp only[Tryz.ntmps6,Zo,Ze,Zg,Nat.reduceAdd,Nat.reduceSub,Zi,Zj,Zk,Zl,Zm,Zp];gi_wp2_with fail
  go_ret
  exact Says.no HB1.out
 case neg =>
 have y0:¬((hl:Int)<1):=by omega
 have d0:decide ((hl:Int)<1)=false:=zL y0;have j0:decide (hl<1)=false:=zL (by omega)
 have m0:decide (hl=0)=false:=zL (by omega)
 by_cases q1:6<hl
 case pos =>
  have y1:(6:Int)<(hl:Int):=by omega
  have d1:decide ((6:Int)<(hl:Int))=true:=zM y1;have j1:decide (6<hl)=true:=zM (by omega)
  refine (zF (n:=0)).1 ?_;refine callsIn_of_wp Tryz.func6 rfl trivial ?_ rfl;simp only[Tryz.ntmps6,Zo,Ze,Zg,Nat.reduceAdd,Nat.reduceSub,Zi,Zj,Zk,Zl,Zm,Zp];gi_wp2_with fail
  go_ret
  exact Says.no HB1.out
 case neg =>
 have y1:¬((6:Int)<(hl:Int)):=by omega
 have d1:decide ((6:Int)<(hl:Int))=false:=zL y1;have j1:decide (6<hl)=false:=zL (by omega)
 by_cases q2:rl<1
 case pos =>
  have y2:(rl:Int)<1:=by omega
  have d2:decide ((rl:Int)<1)=true:=zM y2;have j2:decide (rl<1)=true:=zM (by omega)
  have m2:decide (rl=0)=true:=zM (by omega)
  refine (zF (n:=0)).1 ?_;refine callsIn_of_wp Tryz.func6 rfl trivial ?_ rfl;simp only[Tryz.ntmps6,Zo,Ze,Zg,Nat.reduceAdd,Nat.reduceSub,Zi,Zj,Zk,Zl,Zm,Zp];gi_wp2_with fail
  go_ret
  exact Says.no HB1.out
 case neg =>
 have y2:¬((rl:Int)<1):=by omega
 have d2:decide ((rl:Int)<1)=false:=zL y2;have j2:decide (rl<1)=false:=zL (by omega)
 have m2:decide (rl=0)=false:=zL (by omega)
 by_cases q3:4<rl
 case pos =>
  have y3:(4:Int)<(rl:Int):=by omega
  have d3:decide ((4:Int)<(rl:Int))=true:=zM y3;have j3:decide (4<rl)=true:=zM (by omega)
  refine (zF (n:=0)).1 ?_;refine callsIn_of_wp Tryz.func6 rfl trivial ?_ rfl;simp only[Tryz.ntmps6,Zo,Ze,Zg,Nat.reduceAdd,Nat.reduceSub,Zi,Zj,Zk,Zl,Zm,Zp];gi_wp2_with fail
  go_ret
  exact Says.no HB1.out
 case neg =>
 have y3:¬((4:Int)<(rl:Int)):=by omega
 have d3:decide ((4:Int)<(rl:Int))=false:=zL y3;have j3:decide (4<rl)=false:=zL (by omega)
 by_cases q4:r1<0
 case pos =>
  have y4:r1<0:=by omega
  have d4:decide (r1<0)=true:=zM y4;refine (zF (n:=0)).1 ?_;refine callsIn_of_wp Tryz.func6 rfl trivial ?_ rfl;simp only[Tryz.ntmps6,Zo,Ze,Zg,Nat.reduceAdd,Nat.reduceSub,Zi,Zj,Zk,Zl,Zm,Zp];gi_wp2_with fail
  go_ret
  exact Says.no HB1.out
 case neg =>
 have y4:¬(r1<0):=by omega
 have d4:decide (r1<0)=false:=zL y4;by_cases q5:4<r1
 case pos =>
  have y5:4<r1:=by omega
  have d5:decide (4<r1)=true:=zM y5;refine (zF (n:=0)).1 ?_;refine callsIn_of_wp Tryz.func6 rfl trivial ?_ rfl;simp only[Tryz.ntmps6,Zo,Ze,Zg,Nat.reduceAdd,Nat.reduceSub,Zi,Zj,Zk,Zl,Zm,Zp];gi_wp2_with fail
  go_ret
  exact Says.no HB1.out
 case neg =>
 have y5:¬(4<r1):=by omega
 have d5:decide (4<r1)=false:=zL y5;by_cases q6:r2<0
 case pos =>
  have y6:r2<0:=by omega
  have d6:decide (r2<0)=true:=zM y6;refine (zF (n:=0)).1 ?_;refine callsIn_of_wp Tryz.func6 rfl trivial ?_ rfl;simp only[Tryz.ntmps6,Zo,Ze,Zg,Nat.reduceAdd,Nat.reduceSub,Zi,Zj,Zk,Zl,Zm,Zp];gi_wp2_with fail
  go_ret
  exact Says.no HB1.out
 case neg =>
 have y6:¬(r2<0):=by omega
 have d6:decide (r2<0)=false:=zL y6;by_cases q7:6<r2
 case pos =>
  have y7:6<r2:=by omega
  have d7:decide (6<r2)=true:=zM y7;refine (zF (n:=0)).1 ?_;refine callsIn_of_wp Tryz.func6 rfl trivial ?_ rfl;simp only[Tryz.ntmps6,Zo,Ze,Zg,Nat.reduceAdd,Nat.reduceSub,Zi,Zj,Zk,Zl,Zm,Zp];gi_wp2_with fail
  go_ret
  exact Says.no HB1.out
 case neg =>
 have y7:¬(6<r2):=by omega
 have d7:decide (6<r2)=false:=zL y7;obtain⟨W3,hW3⟩:=Zq (W1.alloc (.cells #[.slice none 0 0,.slice none 0 0,.int .i64 0,.int .i64 0] 57));have s1:W1.heap.size=w0.heap.size+1:=by rw[<-hW1];simp
 have hb13:Below W1.heap.size W1 W3:=by rw[<-hW3];exact Zr
 have k1:Blk (w0.heap.size+1) #[.slice none 0 0,.slice none 0 0,.int .i64 0,.int .i64 0] 57 W3:=by
  have:=Blk.new W1 #[.slice none 0 0,.slice none 0 0,.int .i64 0,.int .i64 0] 57
  rwa [hW3,s1] at this
 have k03:=k0.below hb13;have a0:W3.cell? ⟨w0.heap.size+1,0,none⟩=some _:=k1.cell 0;have a1:W3.cell? ⟨w0.heap.size+1,1,none⟩=some _:=k1.cell 1;have a2:W3.cell? ⟨w0.heap.size+1,2,none⟩=some _:=k1.cell 2;have a3:W3.cell? ⟨w0.heap.size+1,3,none⟩=some _:=k1.cell 3;have f0:=k1.frozen 0;have f1:=k1.frozen 1;have f2:=k1.frozen 2;have f3:=k1.frozen 3;obtain⟨W4,hW4⟩:=Zq ((((W3.setCell ⟨w0.heap.size+1,0,none⟩ (.slice none 0 0)).setCell ⟨w0.heap.size+1,1,none⟩ (.slice ro rl rc)).setCell ⟨w0.heap.size+1,2,none⟩ (.int .i64 r1)).setCell ⟨w0.heap.size+1,3,none⟩ (.int .i64 r2));have K0:Hid (Blk w0.heap.size #[.slice oh hl ch,.slice ro rl rc,.int .i64 r1,.int .i64 r2] 25 W4):=by
  show Blk _ _ _ _;rw[<-hW4];exact (((k03.set (by omega) _).set (by omega) _).set (by omega) _).set (by omega) _
 have K1:Hid (Blk (w0.heap.size+1) #[.slice none 0 0,.slice ro rl rc,.int .i64 r1,.int .i64 r2] 57 W4):=by
  show Blk _ _ _ _;rw[<-hW4];exact (((k1.setAt 0 _).setAt 1 _).setAt 2 _).setAt 3 _
 have HB4:Hid (Below w0.heap.size w0 W4):=by
  show Below _ _ _;rw[<-hW4];have hb3:=Z5 HB1.out hb13;exact (((hb3.setCell (p:=⟨w0.heap.size+1,0,none⟩) (by simp) _).setCell (p:=⟨w0.heap.size+1,1,none⟩) (by simp) _).setCell (p:=⟨w0.heap.size+1,2,none⟩) (by simp) _).setCell (p:=⟨w0.heap.size+1,3,none⟩) (by simp) _
 have HS4:Hid (w0.heap.size+2<=W4.heap.size):=by have:=K1.out.lt;show _<=_;omega
 have ST:Hid (Stable (fun t=>t=60\/t=57) (SvC (w:=w) 69)):=SvC.stable (by decide)
 have g1:(hl:Int)<=6:=by omega
 have HQ:Hid (1<=hl/\hl<=6/\1<=rl/\rl<=4/\(0<=r1/\r1<=4)/\(0<=r2/\r2<=6)):=by show _/\_;omega
 clear k0 k1 k03 hb13;refine (zF (n:=0)).1 ?_;refine callsIn_of_wp Tryz.func6 rfl trivial ?_ rfl;simp only[Tryz.ntmps6,Zo,Ze,Zg,Nat.reduceAdd,Nat.reduceSub,Zi,Zj,Zk,Zl,Zm,Zp];gi_wp2_with fail
 clear z0 z1 z2 z3 a0 a1 a2 a3 f0 f1 f2 f3 hW1 hW3 hW4 s1 q0 y0 d0 j0 m0 q1 y1 d1 j1 q2 y2 d2 j2 m2 q3 y3 d3 j3 q4 y4 d4 q5 y5 d5 q6 y6 d6 q7 y7 d7
 gi_loopw [4] (fun vi W=>∃(i:Nat) (css:List (List Value)) (ox:Option Addr) (cx:Nat),i<=hl/\vi=.int .i64 i/\Hid (Blk w0.heap.size #[.slice oh hl ch,.slice ro rl rc,.int .i64 r1,.int .i64 r2] 25 W)/\Hid (Blk (w0.heap.size+1) #[.slice ox i cx,.slice ro rl rc,.int .i64 r1,.int .i64 r2] 57 W)/\Hid (BdG (SvC 69) 60 6 (w0.heap.size+2) ((hs.map svOf).take i) css (.slice ox i cx) W)/\Hid (∀q (h:q<hs.length),q<i->GoodH hs[q])/\Hid (Below w0.heap.size w0 W)/\Hid (w0.heap.size+2<=W.heap.size)) (fun vi _=>hl-(intOf vi).toNat)
 case atStart=>exact⟨0,[],none,0,Nat.zero_le _,rfl,K0,K1,BdG.nil,fun q _ h=>by omega,HB4,HS4⟩
 case round =>
  clear K0 K1 HB4 HS4 HB1;obtain⟨i,css,ox,cx,hi,rfl,K0,K1,HM,HGH,HB,HS⟩:=hrel;obtain⟨wr,rfl⟩:∃q,q=wr:=⟨_,rfl⟩;have y0:wr.cell? ⟨w0.heap.size,0,none⟩=some _:=K0.out.cell 0;by_cases hlt:i<hl
  case neg =>
   have hlz:¬((i:Int)<(hl:Int)):=by omega
   have hss:(hs.map svOf).length=hl:=by rw[Zf];exact HHL.out
   have hcf:CfC 69 (hs.map svOf) (.slice ox i cx) wr:=by
    have h:=bd_cfc HM.out
    rwa [List.take_of_length_le (by omega)] at h
   have hall:∀h∈hs,GoodH h:=fun h hh=>by
    obtain⟨q,hq,rfl⟩:=List.mem_iff_getElem.1 hh;exact HGH.out q hq (by have:=HHL.out;omega)
   have hpls:∀s∈hs.map svOf,s.pls.length<=4:=fun s hs'=>by
    obtain⟨h,hh,rfl⟩:=List.mem_map.1 hs';show (h.zones.map _).length<=4;rw[Zf];exact (hall h hh).1
   have hNO:∀s∈hs.map svOf,∀p∈s.pls,NB p.2:=fun s hs' p hp=>by
    obtain⟨h,hh,rfl⟩:=List.mem_map.1 hs';obtain⟨z,hz,rfl⟩:=List.mem_map.1 hp;exact (Nm.good2_parts ((hall h hh).2 z hz).good).1
   have HALL:Hid (GoodN hs):=⟨by have:=HHL.out;omega,hall⟩
   have hbw:=Z5 HBW.out HB.out;have HFEW:=Hd (few15_any hbw 69 (hs.map svOf) (.slice ox i cx) ro rl rc r1 r2 hcf (by rw[hss];exact HQ.out.2.1) HQ.out.2.2.2.1 hpls)
   have HOF:Hid (∀W',Below wr.heap.size wr W'->Calls Tryz.prog 23 #[.agg #[.slice ox i cx,.slice ro rl rc,.int .i64 r1,.int .i64 r2]] W' (CfR (hs.map svOf) ro rl rc r1 r2 W')):=fun W' hW=>of15_any (Z5 hbw hW) 69 (hs.map svOf) (.slice ox i cx) ro rl rc r1 r2 (hcf.below hW) (by rw[hss];exact HQ.out.2.1) hpls
   have HCC:Hid (∀(W':World) (vx:Value),Below wr.heap.size wr W'->CfC 128 (hs.map svOf) vx W'->(∀s∈hs.map svOf,NB s.name)->Calls Tryz.prog 22 #[.agg #[vx,.slice ro rl rc,.int .i64 r1,.int .i64 r2]] W' (Ints22 W')):=fun W' vx hW hc hnb=>checkConf_any (Z5 hbw hW) (hs.map svOf) vx ro rl rc rs r1 r2 hc ((HR.out.below hbw).below hW) (by rw[hss];exact HQ.out.1) (by rw[hss];exact HQ.out.2.1) (by have:=HQ.out.2.2.1;have:=HRL.out;omega) (by have:=HQ.out.2.2.2.1;have:=HRL.out;omega) HQ.out.2.2.2.2.1 HQ.out.2.2.2.2.2 hpls hnb hNO
   have x0:wr.cell? ⟨w0.heap.size+1,0,none⟩=some _:=K1.out.cell 0;have x1:wr.cell? ⟨w0.heap.size+1,1,none⟩=some _:=K1.out.cell 1;have x2:wr.cell? ⟨w0.heap.size+1,2,none⟩=some _:=K1.out.cell 2;have x3:wr.cell? ⟨w0.heap.size+1,3,none⟩=some _:=K1.out.cell 3;clear hss hcf hall hpls hNO hbw HM HGH;gi_wp2_with fail
   refine (callsIn_wide.2 HFEW.out).mono ?_;rintro e9 wa ⟨b,rfl,hq,b9⟩;have HQF:=Hd hq;have HBA:=Hd b9;clear hq b9 x0 x1 x2 x3 y0 HFEW;cases b with
   | false =>
    gi_wp2_with fail
    go_ret
    exact Says.no (Z5 HB.out HBA.out)
   | true =>
   have HNB:=Hd (HQF.out rfl);clear HQF;have x0:wa.cell? ⟨w0.heap.size+1,0,none⟩=some _:=(K1.out.below HBA.out).cell 0;have x1:wa.cell? ⟨w0.heap.size+1,1,none⟩=some _:=(K1.out.below HBA.out).cell 1;have x2:wa.cell? ⟨w0.heap.size+1,2,none⟩=some _:=(K1.out.below HBA.out).cell 2;have x3:wa.cell? ⟨w0.heap.size+1,3,none⟩=some _:=(K1.out.below HBA.out).cell 3;gi_wp2_with fail
   refine (callsIn_wide.2 (HOF.out wa HBA.out)).mono ?_;rintro e9 wb ⟨vx,rfl,hcx,b9⟩;obtain⟨og,cg,hvx⟩:=hcx.form;obtain⟨n9,hn9⟩:=Zq ((hs.map svOf).length);rw[hn9] at hvx;subst hvx;clear hn9;have HBB:=Hd (Z5 HBA.out b9);have HCX:=Hd (HCC.out wb _ (Z5 HBA.out b9) hcx HNB.out);clear hcx b9 x0 x1 x2 x3;gi_wp2_with fail
   refine (callsIn_wide.2 HCX.out).mono ?_;rintro e9 wc ⟨za,zb,rfl,b9⟩;have HBC:=Hd (Z5 HBB.out b9);clear b9 HCX;gi_wp2_with fail
   go_ret
   exact⟨_,rfl,fun _=>HALL.out,Z5 HB.out HBC.out⟩
  case pos =>
  have hlz:(i:Int)<(hl:Int):=by omega
  have his:i<hs.length:=by rw[HHL.out];exact hlt
  obtain⟨a,rfl,_⟩:=HHV.out.at (by decide) i (by rw[Zf];exact his)
  obtain⟨s,hs'⟩:∃s,hs[i]=s:=⟨_,rfl⟩;have HSI:Hid (∀h:i<hs.length,hs[i]=s):=fun _=>hs'
  have HTK:Hid ((hs.map svOf).take (i+1)=(hs.map svOf).take i++[svOf s]):=by show _=_;rw[Zx (by rw[Zf];exact his),List.getElem_map,hs']
  obtain⟨pl,hpl'⟩:∃n,s.zones.length=n:=⟨_,rfl⟩;obtain⟨oz,cz,hvz,hcz1,hcz2⟩:=s.hz.form;have hz:=s.hz;rw[Zf,hpl'] at hvz hcz1;rw[hvz] at hz;obtain⟨on,cn,hvn,hf1,hf2⟩:=s.hn.form;obtain⟨nl,hnl⟩:=Zq s.name.length;rw[hnl] at hvn;obtain⟨b0,hb0⟩:=Zq s.a0;obtain⟨b1,hb1⟩:=Zq s.a1;obtain⟨b2,hb2⟩:=Zq s.a2;obtain⟨b3,hb3⟩:=Zq s.a3;obtain⟨ea,hea⟩:=Zq (a.add (i*6));have hcell:∀W',Below w0.heap.size w0 W'->W'.cell? ea=some (.slice on nl cn)/\W'.cell? ⟨ea.block,ea.off+1,none⟩=some (.int .u8 b0)/\W'.cell? ⟨ea.block,ea.off+2,none⟩=some (.int .u8 b1)/\W'.cell? ⟨ea.block,ea.off+3,none⟩=some (.int .u8 b2)/\W'.cell? ⟨ea.block,ea.off+4,none⟩=some (.int .u8 b3)/\W'.cell? ⟨ea.block,ea.off+5,none⟩=some (.slice oz pl cz):=fun W' hW=>by
   obtain⟨a',ha',p0,p1⟩:=(HHV.out.below (Z5 HBW.out hW)).at (by decide) i (by rw[Zf];exact his)
   cases ha';rw[List.getElem_map,hs',hea] at p0 p1;refine⟨p0.trans (by rw[<-hvn];rfl),(p1 1 (by decide) (by decide)).trans (by rw[<-hb0];rfl),(p1 2 (by decide) (by decide)).trans (by rw[<-hb1];rfl),(p1 3 (by decide) (by decide)).trans (by rw[<-hb2];rfl),(p1 4 (by decide) (by decide)).trans (by rw[<-hb3];rfl),(p1 5 (by decide) (by decide)).trans (by rw[<-hvz];rfl)⟩
  have HCE:=Hd hcell;have HZ:=Hd hz;have HPL:=Hd hpl';have HVN:Hid ([s.vn,.int .u8 s.a0,.int .u8 s.a1,.int .u8 s.a2,.int .u8 s.a3]=[.slice on nl cn,.int .u8 b0,.int .u8 b1,.int .u8 b2,.int .u8 b3]):=by show _=_;rw[hvn,hb0,hb1,hb2,hb3]
  have HSS:Hid (∀W',Below w0.heap.size w0 W'->W'.cell? ⟨w0.heap.size,0,none⟩=some (.slice (some a) hl ch)->Cs [(⟨w0.heap.size,0,none⟩,.slice (some a) hl ch),(ea,.slice on nl cn),(⟨ea.block,ea.off+1,none⟩,.int .u8 b0),(⟨ea.block,ea.off+2,none⟩,.int .u8 b1),(⟨ea.block,ea.off+3,none⟩,.int .u8 b2),(⟨ea.block,ea.off+4,none⟩,.int .u8 b3)] W'):=fun W' hW h0=>by
   obtain⟨e0,e1,e2,e3,e4,e5⟩:=hcell W' hW;exact⟨h0,e0,e1,e2,e3,e4,trivial⟩
  clear hs' hz hcell hvn hvz hf1 hf2 hnl hb0 hb1 hb2 hb3 hpl';gi_wp2_with fail
  refine Z8 [1,4,5,7,9,10,11,12,13] (Cs [(⟨w0.heap.size,0,none⟩,.slice (some a) hl ch),(ea,.slice on nl cn),(⟨ea.block,ea.off+1,none⟩,.int .u8 b0),(⟨ea.block,ea.off+2,none⟩,.int .u8 b1),(⟨ea.block,ea.off+3,none⟩,.int .u8 b2),(⟨ea.block,ea.off+4,none⟩,.int .u8 b3)]) 15 rfl (by kernel_rfl) ?_
  intro wa hwa;have HBA:Hid (Below wr.heap.size wr wa):=by subst hwa;exact (Below.refl _ _).drew
  have hS:=HSS.out wa (HB.out.trans (HBA.out.mono (by have:=HS.out;omega))) (K0.out.below HBA.out |>.cell 0)
  clear hwa y0;refine tB 0 ?_;refine tB 2 ?_;refine tB 6 ?_;refine tB 8 ?_;refine tA 1 hS ?_;refine tB 3 ?_;refine tA 4 hS ?_;refine tA 7 hS ?_;refine tA 9 hS ?_;refine tA 10 hS ?_;refine tA 5 hS ?_;refine tA 11 hS ?_;simp only[Act.put,Za,Zd,Zc];refine tA 12 hS ?_;refine oneH 13 (by rfl) (by kernel_rfl) (fun K hK=>?_)
  gi_wp2_with fail
  obtain⟨Wb,hWb⟩:=Zq (wa.alloc (.cells #[.slice none 0 0,.int .u8 0,.int .u8 0,.int .u8 0,.int .u8 0,.slice none 0 0] 60));obtain⟨bs,hbs⟩:=Zq wa.heap.size;have kb:Blk bs #[.slice none 0 0,.int .u8 0,.int .u8 0,.int .u8 0,.int .u8 0,.slice none 0 0] 60 Wb:=by rw[<-hbs,<-hWb];exact Blk.new wa _ _
  have hbb:Below wa.heap.size wa Wb:=by rw[<-hWb];exact Zr
  have hszb:bs+1=Wb.heap.size:=by rw[<-hWb,<-hbs];simp
  have hbw:w0.heap.size+2<=bs:=by rw[<-hbs];exact Nat.le_trans HS.out HBA.out.size
  rw[hWb,hbs];have HBB:=Hd (Z5 HBA.out hbb);refine hK _ _ (fun _=>HSS.out Wb (HB.out.trans (HBB.out.mono (by have:=HS.out;omega))) (K0.out.below HBB.out |>.cell 0)) ?_
  clear hK K hS;have u0:Wb.cell? ⟨bs,0,none⟩=some _:=kb.cell 0;have u1:Wb.cell? ⟨bs,1,none⟩=some _:=kb.cell 1;have u2:Wb.cell? ⟨bs,2,none⟩=some _:=kb.cell 2;have u3:Wb.cell? ⟨bs,3,none⟩=some _:=kb.cell 3;have u4:Wb.cell? ⟨bs,4,none⟩=some _:=kb.cell 4;have u5:Wb.cell? ⟨bs,5,none⟩=some _:=kb.cell 5;have z0:=kb.frozen 0;have z1:=kb.frozen 1;have z2:=kb.frozen 2;have z3:=kb.frozen 3;have z4:=kb.frozen 4;have z5:=kb.frozen 5;obtain⟨Wd,hWd⟩:=Zq ((((((Wb.setCell ⟨bs,0,none⟩ (.slice on nl cn)).setCell ⟨bs,1,none⟩ (.int .u8 b0)).setCell ⟨bs,2,none⟩ (.int .u8 b1)).setCell ⟨bs,3,none⟩ (.int .u8 b2)).setCell ⟨bs,4,none⟩ (.int .u8 b3)).setCell ⟨bs,5,none⟩ (.slice none 0 0));have kd:=(((((kb.setAt 0 (.slice on nl cn)).setAt 1 (.int .u8 b0)).setAt 2 (.int .u8 b1)).setAt 3 (.int .u8 b2)).setAt 4 (.int .u8 b3)).setAt 5 (.slice none 0 0);have hbd:Below bs wa Wd:=by
   rw[<-hWd];have h:=hbb;rw[hbs] at h;exact (((((h.setCell (p:=⟨bs,0,none⟩) (by simp) _).setCell (p:=⟨bs,1,none⟩) (by simp) _).setCell (p:=⟨bs,2,none⟩) (by simp) _).setCell (p:=⟨bs,3,none⟩) (by simp) _).setCell (p:=⟨bs,4,none⟩) (by simp) _).setCell (p:=⟨bs,5,none⟩) (by simp) _
  have hsd:bs+1<=Wd.heap.size:=by rw[<-hWd];simp[World.setCell];omega
  rw[hWd] at kd;have KD:=Hd kd;have HBD:=Hd hbd;have HSD:=Hd hsd;refine oneH 14 (by rfl) (by kernel_rfl) (fun K hK=>?_)
  gi_wp2
  refine hK _ _ (fun h=>absurd h (by decide)) ?_
  clear hK K;refine Z9 (by kernel_rfl) ?_
  clear u0 u1 u2 u3 u4 u5 z0 z1 z2 z3 z4 z5 kb kd hbd hsd hWb hWd hbb hszb;have HBS:=Hd hbs;clear hbs;have HJW:Hid (∀W',Below bs wa W'->Below w0.heap.size w0 W'/\W'.cell? ⟨w0.heap.size,0,none⟩=some (.slice (some a) hl ch)):=fun W' hW =>
   have h1:Below wr.heap.size wr W':=HBA.out.trans (hW.mono (by rw[<-HBS.out];exact HBA.out.size))
   ⟨HB.out.trans (h1.mono (by have:=HS.out;omega)),(K0.out.below h1).cell 0⟩
  obtain⟨hdb,y0⟩:=HJW.out Wd HBD.out;obtain⟨_,_,_,_,_,y5⟩:=HCE.out Wd hdb;by_cases h4:4<pl
  case pos =>
   have g1:(4:Int)<(pl:Int):=by omega
   have g2:decide ((4:Int)<(pl:Int))=true:=zM g1;have g3:decide (4<pl)=true:=zM h4;gi_wp2_with fail
   go_ret
   exact Says.no hdb
  case neg =>
  have g1:¬(4:Int)<(pl:Int):=by omega
  have g2:decide ((4:Int)<(pl:Int))=false:=zL g1;have g3:decide (4<pl)=false:=zL h4;have g4:(pl:Int)<=4:=by omega
  have HP4:Hid (pl<=4):=by show _<=_;omega
  gi_wp2_with fail
  clear y0 y5 hdb g1 g2 g3 h4 hcz1 hcz2
  gi_loopw [6] (fun vj W=>∃(j:Nat) (oy:Option Addr) (cy:Nat),j<=pl/\vj=.int .i64 j/\Hid (Blk bs #[.slice on nl cn,.int .u8 b0,.int .u8 b1,.int .u8 b2,.int .u8 b3,.slice oy j cy] 60 W)/\Hid (Row (fun g=>bs<g) 69 2 (.slice oy j cy) j (((svOf s).pls.take j).map encPl).flatten W)/\Hid (∀q (h:q<s.zones.length),q<j->GoodZ s.zones[q])/\Hid (Below bs wa W)/\Hid (bs+1<=W.heap.size)) (fun vj _=>pl-(intOf vj).toNat)
  case atStart=>exact⟨0,none,0,Nat.zero_le _,rfl,KD,Row.nil _ _ _ _,fun q _ h=>by omega,HBD,HSD⟩
  case round =>
   clear KD HBD HSD HBB;obtain⟨j,oy,cy,hj,rfl,KJ,HRJ,HGZ,HBJ,HSJ⟩:=hrel;obtain⟨wj,rfl⟩:∃q,q=wr:=⟨_,rfl⟩;obtain⟨hjb,y0⟩:=HJW.out wj HBJ.out;obtain⟨_,_,_,_,_,y5⟩:=HCE.out wj hjb;have hpsv:(svOf s).pls.length=pl:=by show (s.zones.map _).length=_;rw[Zf];exact HPL.out
   by_cases hlj:j<pl
   case neg =>
    have hljz:¬((j:Int)<(pl:Int)):=by omega
    obtain rfl:j=pl:=by omega
    have hbj:Below wr.heap.size wr wj:=HBA.out.trans (HBJ.out.mono (by rw[<-HBS.out];exact HBA.out.size))
    have HSV:Hid (SvC 69 (svOf s) [.slice on nl cn,.int .u8 b0,.int .u8 b1,.int .u8 b2,.int .u8 b3,.slice oy j cy] wj):=by
     have h:=sv_done (s:=svOf s) (tQ:=69) (vz:=.slice oy j cy) (b:=bs) (W:=wj) (by
      have h:=HRJ.out;rw[<-hpsv,List.take_length] at h;rw[hpsv] at h ⊢;exact h)
     have e:=HVN.out;simp only[List.cons.injEq] at e;obtain⟨e0,e1,e2,e3,e4,_⟩:=e;have h':SvC 69 (svOf s) [s.vn,.int .u8 s.a0,.int .u8 s.a1,.int .u8 s.a2,.int .u8 s.a3,.slice oy j cy] wj:=h;rw[e0,e1,e2,e3,e4] at h';exact h'
    have HGS:Hid (GoodH s):=⟨by have:=HPL.out;have:=HP4.out;omega,fun z hz=>by
     obtain⟨q,hq,rfl⟩:=List.mem_iff_getElem.1 hz;exact HGZ.out q hq (by have:=HPL.out;omega)⟩
    have HMJ:=Hd (HM.out.below ST.out hbj);have hil:css.length=i:=by rw[HM.out.len,List.length_take,Zf];have:=HHL.out;omega
    have HIL:=Hd hil;have HNB:Hid (Below wj.heap.size wj (wj.alloc (.cells #[.slice on nl cn,.int .u8 b0,.int .u8 b1,.int .u8 b2,.int .u8 b3,.slice oy j cy] 60))):=Zr;have HX0:=Hd (K0.out.below hbj);have HX1:=Hd (K1.out.below hbj);have HBJW:=Hd (HB.out.trans (hbj.mono (by have:=HS.out;omega)))
    have HSW:Hid (w0.heap.size+2<=wj.heap.size):=Nat.le_trans HS.out hbj.size;have hrow:Row (fun g=>w0.heap.size+2<=g) 60 6 (.slice ox i cx) i css.flatten wj:=by have h:=HMJ.out.row;rwa [hil] at h
    have HROW:=Hd hrow;have x0:wj.cell? ⟨w0.heap.size+1,0,none⟩=some (.slice ox i cx):=HX1.out.cell 0;have xf:=HX1.out.frozen 0;have t0:wj.cell? ⟨bs,0,none⟩=some _:=KJ.out.cell 0;have t1:wj.cell? ⟨bs,1,none⟩=some _:=KJ.out.cell 1;have t2:wj.cell? ⟨bs,2,none⟩=some _:=KJ.out.cell 2;have t3:wj.cell? ⟨bs,3,none⟩=some _:=KJ.out.cell 3;have t4:wj.cell? ⟨bs,4,none⟩=some _:=KJ.out.cell 4;have t5:wj.cell? ⟨bs,5,none⟩=some _:=KJ.out.cell 5;clear hrow hbj hil hpsv;gi_wp2_with (gi_at_builtin;refine Z7 (fun g=>w0.heap.size+2<=g) 60 _ 6 56 info_cserver rfl (by decide) rfl _ _ _ Tryz.underlying55 rfl _ i css (by rfl) (HROW.out.below HNB.out) _ [[.slice on nl cn,.int .u8 b0,.int .u8 b1,.int .u8 b2,.int .u8 b3,.slice oy j cy]] (by rfl) (GRd.new [.slice on nl cn,.int .u8 b0,.int .u8 b1,.int .u8 b2,.int .u8 b3,.slice oy j cy] rfl (by simp[Value.oneCell']) wj 60) (by simp;omega) (by omega) (by have:=HSW.out;simp;omega) ?_;intro v10 w10 hrow10 hgr10;obtain⟨o10,c10,e10⟩:=hrow10.form;subst e10;have y2:Blk (w0.heap.size+1) #[.slice ox i cx,.slice ro rl rc,.int .i64 r1,.int .i64 r2] 57 w10:=(hgr10.block _ (by have:=HSW.out;simp;omega) (fun e=>by have:=HROW.out.2 _ e.symm;omega)).trans (HX1.out.below HNB.out);have y0:=y2.cell 0;have y1:=y2.frozen 0;have HR10:=Hd hrow10;have HG10:=Hd hgr10;have HY2:=Hd y2;clear hrow10 hgr10 y2)
    have hm:=BdG.push ST.out (v10:=.slice o10 (i+1) c10) (.inl rfl) (HMJ.out.below ST.out HNB.out) (ST.out _ _ _ _ HSV.out (keepT.below HNB.out)) (by rw[HIL.out];exact HR10.out) HG10.out
    rw[<-HTK.out] at hm;have hk0:Blk w0.heap.size #[.slice (some a) hl ch,.slice ro rl rc,.int .i64 r1,.int .i64 r2] 25 w10:=(HG10.out.block _ (by have:=HSW.out;simp;omega) (fun e=>by have:=HROW.out.2 _ e.symm;omega)).trans (HX0.out.below HNB.out)
    have hb10:Below w0.heap.size w0 w10:=(HBJW.out.trans (HNB.out.mono (by have:=HSW.out;omega))).grown HG10.out (by have:=HSW.out;simp;omega) (fun g hg=>by have:=HROW.out.2 g hg;omega)
    have hs10:w0.heap.size+2<=w10.heap.size:=by have h1:=HSW.out;have h2:=HG10.out.size;simp at h2;omega
    refine⟨⟨i+1,_,o10,c10,hlt,by go_num,hk0.set (by omega) _,HY2.out.setAt 0 _,hm.setB ST.out (o:=0) (u:=.slice o10 (i+1) c10) HY2.out (by omega) (.inr rfl),fun q hq hqi=>?_,hb10.setCell (p:=⟨w0.heap.size+1,0,none⟩) (by simp) _,by show _<=_;simpa[World.setCell] using hs10⟩,by simp[intOf];omega⟩
    by_cases e:q<i
    ·exact HGH.out q hq e
    ·obtain rfl:q=i:=by omega
     rw[HSI.out hq];exact HGS.out
   case pos =>
   have hljz:(j:Int)<(pl:Int):=by omega
   have hjp:j<s.zones.length:=by rw[HPL.out];exact hlj
   obtain⟨b,rfl,_⟩:=HZ.out.at (by decide) j (by rw[Zf];exact hjp)
   obtain⟨z,hz⟩:=Zq (s.zones[j]);have HZI:Hid (∀h:j<s.zones.length,s.zones[j]=z):=fun _=>hz
   have HPT:Hid ((svOf s).pls.take (j+1)=(svOf s).pls.take j++[(z.vo,z.origin)]):=by
    have hj2:j<(s.zones.map fun z:ZR w=>(z.vo,z.origin)).length:=by rw[Zf];exact hjp
    show (s.zones.map fun z:ZR w=>(z.vo,z.origin)).take (j+1)=(s.zones.map fun z:ZR w=>(z.vo,z.origin)).take j++[(z.vo,z.origin)]
    rw[Zx hj2,List.getElem_map,hz]
   obtain⟨op,cp,hzo,hf1,hf2⟩:=z.ho.form;obtain⟨oq,cq,hzr,hg1,hg2⟩:=z.hr.shape;have hze:encZR z=[.slice op z.origin.length cp,.slice oq z.recs.length cq]:=by unfold encZR;rw[hzo,hzr]
   obtain⟨np,hnp⟩:=Zq z.origin.length;obtain⟨nq,hnq⟩:=Zq z.recs.length;have hor:=z.ho;have hrr:=z.hr;rw[hzo,hnp] at hor;rw[hzr,hnq] at hrr;rw[hnp,hnq] at hze;rw[hnq] at hg1;have HZO:Hid (z.vo=.slice op np cp):=by show _=_;rw[hzo,hnp]
   have HNQ:=Hd hnq;have HRR:=Hd hrr;have HG12:Hid (∀W',Below w0.heap.size w0 W'->Calls Tryz.prog 17 #[.slice op np cp,.slice oq nq cq] W' (Says (Nm.good2 z.origin=true/\RF z.recs/\NSok z.recs) W')):=fun W' hW=>good12N_any _ _ _ _ W' (hor.below (Z5 HBW.out hW)) (hrr.kept (Z5 HBW.out hW))
   obtain⟨eb,heb⟩:=Zq (b.add (j*2));have hpc:∀W',Below w0.heap.size w0 W'->W'.cell? eb=some (.slice op np cp)/\W'.cell? ⟨eb.block,eb.off+1,none⟩=some (.slice oq nq cq):=fun W' hW=>by
    obtain⟨a',ha',p0,p1⟩:=(HZ.out.below (Z5 HBW.out hW)).at (by decide) j (by rw[Zf];exact hjp)
    cases ha';rw[List.getElem_map,hz,hze,heb] at p0 p1;exact⟨p0,p1 1 (by decide) (by decide)⟩
   obtain⟨d0,d1⟩:=hpc wj hjb;clear hz hpc hzo hzr hze hf1 hf2 hnp hnq hor hrr hpsv;gi_wp2_with fail
   obtain⟨Wz,hWz⟩:=Zq (wj.alloc (.cells #[.slice op np cp,.slice oq nq cq] 54));have hkz:Blk wj.heap.size #[.slice op np cp,.slice oq nq cq] 54 Wz:=by rw[<-hWz];exact Blk.new wj _ _
   have hbz:Below wj.heap.size wj Wz:=by rw[<-hWz];exact Zr
   obtain⟨zb,hzb⟩:=Zq wj.heap.size;have HZB:Hid (bs+1<=zb):=by show _<=_;rw[<-hzb];exact HSJ.out
   have HBZ:=Hd hbz;have HWZ:Hid (Below bs wa Wz):=HBJ.out.trans (hbz.mono (by have h1:=HSJ.out;omega))
   rw[hzb] at hkz;have HKZ:=Hd hkz;have HZBW:Hid (zb<Wz.heap.size):=hkz.lt
   try rw[hWz]
   try rw[hzb]
   clear hkz hbz hWz d0 d1 y0 y5 hjb;have HS14:Hid (∀W',Below Wz.heap.size Wz W'->Cs [(⟨zb,0,none⟩,.slice op np cp),(⟨zb,1,none⟩,.slice oq nq cq)] W'):=fun W' hW=>⟨(HKZ.out.below hW).cell 0,(HKZ.out.below hW).cell 1,trivial⟩
   have HW0:Hid (∀W',Below Wz.heap.size Wz W'->Below w0.heap.size w0 W'):=fun W' hW=>(HJW.out _ (HWZ.out.trans (hW.mono (by have h1:=HZB.out;have h2:=HZBW.out;omega)))).1
   refine Z8 [1,3,5,6,7,8,9,10,11,12,13,14,15,16,17,18,19,20,21,22,23,24,25] (Cs [(⟨zb,0,none⟩,.slice op np cp),(⟨zb,1,none⟩,.slice oq nq cq)]) 26 rfl (by kernel_rfl) ?_
   intro wc hwc;have HBC:Hid (Below Wz.heap.size Wz wc):=by subst hwc;exact (Below.refl _ _).drew
   have hS:=HS14.out wc HBC.out;clear hwc;refine tB 0 ?_;refine tB 2 ?_;refine tA 1 hS ?_;refine tA 3 hS ?_;refine oneH 4 (by rfl) (by kernel_rfl) (fun K hK=>?_)
   gi_wp2_with fail
   refine (callsIn_wide.2 (HG12.out wc (HW0.out wc HBC.out))).mono ?_;rintro e9 wd ⟨bg,rfl,hq,b9⟩;have HQG:=Hd hq;have HBD:=Hd (Z5 HBC.out b9);clear hq b9;gi_wp2_with fail
   refine hK _ _ (fun _=>HS14.out wd HBD.out) ?_
   clear hK K;replace hS:=HS14.out wd HBD.out;cases bg with
   | false =>
    refine tA 5 hS ?_;refine tA 6 hS ?_;simp only[Act.put,Za,Zd,Zc];refine tU 7 hS ?_;refine tU 8 hS ?_;refine tU 9 hS ?_;refine tU 10 hS ?_;refine tA 11 hS ?_;refine tA 12 hS ?_;simp only[Act.put,Za,Zd,Zc];refine tU 13 hS ?_;refine tU 14 hS ?_;refine tU 15 hS ?_;refine tU 16 hS ?_;refine tU 17 hS ?_;refine tU 18 hS ?_;refine tU 19 hS ?_;refine tU 20 hS ?_;refine tU 21 hS ?_;refine tU 22 hS ?_;refine tU 23 hS ?_;refine tU 24 hS ?_;refine tA 25 hS ?_;simp only[Act.put,Za,Zd,Zc];refine Z9 (by kernel_rfl) ?_
    clear hS;gi_wp2_with fail
    go_ret
    exact Says.no (HW0.out wd HBD.out)
   | true =>
   have HGG:=Hd (HQG.out rfl);clear HQG;by_cases h20:20<nq
   case pos =>
    have g1:(20:Int)<(nq:Int):=by omega
    have g2:decide ((20:Int)<(nq:Int))=true:=zM g1;have g3:decide (20<nq)=true:=zM h20;refine tA 5 hS ?_;refine tA 6 hS ?_;refine tA 7 hS ?_;refine tA 8 hS ?_;refine tA 9 hS ?_;refine tA 10 hS ?_;refine tA 11 hS ?_;refine tA 12 hS ?_;simp only[Act.put,Za,Zd,Zc];refine tU 13 hS ?_;refine tU 14 hS ?_;refine tU 15 hS ?_;refine tU 16 hS ?_;refine tU 17 hS ?_;refine tU 18 hS ?_;refine tU 19 hS ?_;refine tU 20 hS ?_;refine tU 21 hS ?_;refine tU 22 hS ?_;refine tU 23 hS ?_;refine tU 24 hS ?_;refine tA 25 hS ?_;simp only[Act.put,Za,Zd,Zc];refine Z9 (by kernel_rfl) ?_
    clear hS;gi_wp2_with fail
    go_ret
    exact Says.no (HW0.out wd HBD.out)
   case neg =>
   have g1:¬(20:Int)<(nq:Int):=by omega
   have g2:decide ((20:Int)<(nq:Int))=false:=zL g1;have g3:decide (20<nq)=false:=zL h20;have HGZJ:Hid (GoodZ z):=⟨HGG.out.1,HGG.out.2.1,HGG.out.2.2,by have:=HNQ.out;omega⟩
   obtain⟨L,hL,hL20⟩:=good_els HGZJ.out;have HOA:Hid (∀W',Below w0.heap.size w0 W'->Calls Tryz.prog 19 #[.slice oq nq cq] W' (OfAllR L W')):=fun W' hW=>ofAll_any _ L (Z5 HBW.out hW) (by rw[hL];exact HRR.out.kept (Z5 HBW.out hW)) (by omega)
   have HL20:Hid (L.length<=20):=hL20;clear hL hL20;refine tA 5 hS ?_;refine tA 6 hS ?_;refine tA 7 hS ?_;refine tA 8 hS ?_;refine tA 9 hS ?_;refine tA 10 hS ?_;refine tA 11 hS ?_;refine tA 12 hS ?_;simp only[Act.put,Za,Zd,Zc];refine tA 13 hS ?_;refine tA 16 hS ?_;refine tA 18 hS ?_;refine tA 14 hS ?_;refine tA 17 hS ?_;refine tA 19 hS ?_;simp only[Act.put,Za,Zd,Zc];clear g1 g2 g3 h20;refine oneH 15 (by rfl) (by kernel_rfl) (fun K hK=>?_)
   gi_wp2_with fail
   refine (callsIn_wide.2 (HOA.out wd (HW0.out wd HBD.out))).mono ?_;rintro e9 we ⟨v1,l1,rfl,hr1,hp1,b9⟩;obtain⟨o1,c1,e1⟩:∃o c,v1=.slice o l1.length c:=by obtain⟨_,o,c,h,_⟩:=hr1;exact⟨o,c,by rw[h,Zf]⟩
   obtain⟨n1,hn1⟩:=Zq l1.length;rw[hn1] at e1;subst e1;have HL1:Hid (n1<=20):=by show _<=_;rw[<-hn1,<-zH,hp1,zH];exact HL20.out
   have HN1:=Hd hn1;have HR1:=Hd hr1;have HBE:=Hd (Z5 HBD.out b9);clear hr1 hp1 b9 hn1;gi_wp2_with fail
   refine hK _ _ (fun _=>HS14.out we HBE.out) ?_
   clear hK K;replace hS:=HS14.out we HBE.out;refine oneH 20 (by rfl) (by kernel_rfl) (fun K hK=>?_)
   gi_wp2_with fail
   refine (callsIn_wide.2 (HOA.out we (HW0.out we HBE.out))).mono ?_;rintro e9 wf ⟨v2,l2,rfl,hr2,hp2,b9⟩;obtain⟨o2,c2,e2⟩:∃o c,v2=.slice o l2.length c:=by obtain⟨_,o,c,h,_⟩:=hr2;exact⟨o,c,by rw[h,Zf]⟩
   obtain⟨n2,hn2⟩:=Zq l2.length;rw[hn2] at e2;subst e2;have HL2:Hid (l2.length<=20):=by show _<=_;rw[<-zH,hp2,zH];exact HL20.out
   have HNW:Hid (Calls Tryz.prog 20 #[.slice op np cp,.slice o2 n2 c2] wf (RNewR l2 op np cp wf)):=rNew_any op np cp (.slice o2 n2 c2) l2 (Below.refl _ _) hr2 (by have:=HL2.out;omega)
   have HEF:=Hd b9;have HBF:=Hd (Z5 HBE.out b9);clear hr2 hp2 b9 hn2;gi_wp2_with fail
   refine hK _ _ (fun _=>HS14.out wf HBF.out) ?_
   clear hK K;replace hS:=HS14.out wf HBF.out;refine oneH 21 (by rfl) (by kernel_rfl) (fun K hK=>?_)
   gi_wp2_with fail
   refine (callsIn_wide.2 HNW.out).mono ?_;rintro e9 wg ⟨k3,v3,_,hkl,rfl,hr3,b9⟩;obtain⟨o3,c3,e3⟩:∃o c,v3=.slice o k3.length c:=by obtain⟨_,o,c,h,_⟩:=hr3;exact⟨o,c,by rw[h,Zf]⟩
   obtain⟨n3,hn3⟩:=Zq k3.length;rw[hn3] at e3;subst e3;have HIS:Hid (Calls Tryz.prog 18 #[.slice o1 n1 c1,.slice o3 n3 c3] wg (SomeB wg)):=is5B_any (w:=wf) (w0:=wg) _ _ (l1.map (El.up HEF.out)) k3 b9 (by rw[up_fst];exact (HR1.out.kept HEF.out).kept b9) hr3 (by rw[Zf,HN1.out];have:=HL1.out;omega) (by have:=HL2.out;omega)
   have HBG:=Hd (Z5 HBF.out b9);clear hr3 b9 hkl hn3;gi_wp2_with fail
   refine hK _ _ (fun _=>HS14.out wg HBG.out) ?_
   clear hK K;replace hS:=HS14.out wg HBG.out;refine tA 22 hS ?_;simp only[Act.put,Za,Zd,Zc];refine oneH 23 (by rfl) (by kernel_rfl) (fun K hK=>?_)
   gi_wp2_with fail
   refine (callsIn_wide.2 HIS.out).mono ?_;rintro e9 wh ⟨b2,rfl,b9⟩;have HBH:=Hd (Z5 HBG.out b9);clear b9;gi_wp2_with fail
   refine hK _ _ (fun _=>HS14.out wh HBH.out) ?_
   clear hK K;replace hS:=HS14.out wh HBH.out;refine tA 24 hS ?_;refine tA 25 hS ?_;simp only[Act.put,Za,Zd,Zc];refine Z9 (by kernel_rfl) ?_
   clear hS;cases b2 with
   | false =>
    gi_wp2_with fail
    go_ret
    exact Says.no (HW0.out wh HBH.out)
   | true =>
   have HWH:Hid (Below bs wa wh):=HWZ.out.trans (HBH.out.mono (by have h1:=HZB.out;have h2:=HZBW.out;omega))
   have HJH:=Hd (Z5 HBZ.out HBH.out);obtain⟨x0,x1,_⟩:=HS14.out wh HBH.out;have x5:wh.cell? ⟨bs,5,none⟩=some (.slice oy j cy):=(KJ.out.below HJH.out).cell 5;have HNB:Hid (Below wh.heap.size wh (wh.alloc (.cells #[.slice op np cp,S [120]] 69))):=Zr;have HSH:Hid (bs+1<=wh.heap.size):=by have h1:=HSJ.out;have h2:=HJH.out.size;show _<=_;omega
   have HRH:=Hd (HRJ.out.below HJH.out);have HKH:=Hd (KJ.out.below HJH.out);have HJ4:Hid (j<=4):=by show _<=_;omega
   gi_wp2_with (gi_at_builtin;refine Z7 (fun g=>bs<g) 69 _ 2 40 info_cplace rfl (by decide) rfl _ _ _ Tryz.underlying58 rfl _ j (((svOf s).pls.take j).map encPl) (by rfl) (HRH.out.below HNB.out) _ [[.slice op np cp,S [120]]] (by rfl) (GRd.new [.slice op np cp,S [120]] rfl (by simp[Value.oneCell']) wh 69) (by simp;omega) (by omega) (by have:=HSH.out;simp;omega) ?_;intro v10 w10 hrow10 hgr10;obtain⟨o10,c10,e10⟩:=hrow10.form;subst e10;have y2:Blk bs #[.slice on nl cn,.int .u8 b0,.int .u8 b1,.int .u8 b2,.int .u8 b3,.slice oy j cy] 60 w10:=(hgr10.block bs (by have:=HSH.out;simp;omega) (fun e=>by have:=HRH.out.2 _ e.symm;omega)).trans (HKH.out.below HNB.out);have y0:=y2.cell 5;have y1:=y2.frozen 5;have HR10:=Hd hrow10;have HG10:=Hd hgr10;have HY2:=Hd y2;clear hrow10 hgr10 y2)
   have hb10:Below bs wa w10:=(HWH.out.trans (HNB.out.mono (by have:=HSH.out;omega))).grown HG10.out (by have:=HSH.out;simp;omega) (fun g hg=>by have:=HRH.out.2 g hg;omega)
   have hs10:bs+1<=w10.heap.size:=by have h1:=HSH.out;have h2:=HG10.out.size;simp at h2;omega
   refine⟨⟨j+1,o10,c10,hlj,by go_num,HY2.out.setAt 5 _,?_,fun q hq hqj=>?_,hb10.setCell (p:=⟨bs,5,none⟩) (by simp) _,by show _<=_;simpa[World.setCell] using hs10⟩,by simp[intOf];omega⟩
   ·show Row _ _ _ _ _ _ _
    rw[HPT.out,List.map_append,List.map_cons,List.map_nil];have e:encPl (z.vo,z.origin)=[.slice op np cp,S [120]]:=by unfold encPl;rw[HZO.out]
    rw[e];exact Row.setOther HR10.out (by omega) _
   ·by_cases e:q<j
    ·exact HGZ.out q hq e
    ·obtain rfl:q=j:=by omega
     rw[HZI.out hq];exact HGZJ.out
end
end Go.Proofs.YtgmbefolgppmdaaGreat
